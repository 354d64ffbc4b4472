/- A replica's append on a disk that runs, in plain lists. No walk in sight. A replica opened on a fresh disk, in plain lists. No walk in sight. A replica opened again, in plain lists. No walk in sight. What 'awake' does, in plain lists. No walk in sight. -/
import Derived.Test.YtjfidhjnbcmhfaaRpx1
import Derived.Test.YtjfidhjnbcmhfaaDdx
namespace Go.Proofs.Ytjfidhjnbcmhfaa
open Go.NB (Dk Ent dknown dat)
open Go.NB.Crc

/-- Another one's blocks turn: a segment stands as it stood. -/
theorem sys_other {D D' : Dk} {S : Sg} {recs : List Rec} (h : Sys D S recs []) (hr : Runs D') (hw : D'.waits = []) (hl : D'.l.length = D.l.length) (hs : ∀ k, S.frm ≤ k → k < S.frm + S.n → D'.l[k]? = D.l[k]?) : Sys D' S recs [] := by
  have hreg : regL D'.l S.frm S.n = regL D.l S.frm S.n := by
    apply List.ext_getElem?
    intro i
    rw [regL_at, regL_at]
    split
    · exact hs _ (by omega) (by omega)
    · rfl
  exact { runs := hr, reg := by rw [hl]; exact h.reg, n := h.n, inv := by rw [hreg]; exact h.inv, waits := by rw [hw]; rfl, small := h.small, l := h.l, used := h.used, fit := h.fit, sure := h.sure, e := h.e, ep := h.ep }
theorem put_self (R : Rp) (i : Nat) (hi : i < R.l.length) : R.put i (R.seg i) = R := by
  unfold Rp.put Rp.seg
  rw [List.getD_eq_getElem?_getD, List.getElem?_eq_getElem hi, Option.getD_some, List.set_getElem_self]
theorem Sys.now {D : Dk} {S : Sg} {recs : List Rec} (h : Sys D S recs []) : D.waits = [] := h.waits
theorem put_at (R : Rp) (i j : Nat) (S : Sg) (hi : i < R.l.length) : (R.put i S).seg j = if j = i then S else R.seg j := by
  unfold Rp.put Rp.seg
  simp only [List.getD_eq_getElem?_getD, List.getElem?_set]
  split
  · rename_i h; subst h; simp [hi]
  · rename_i h; rw [if_neg (fun e => h e.symm)]
/-- There is room. -/
theorem sys_apn {D : Dk} {R : Rp} {i : Nat} {recs : List Rec} (h : Sys D (R.seg i) recs []) {b : List UInt8} (hb : b.length ≤ 4096) (hf : (R.seg i).used + needM b.length ≤ (R.seg i).n) :
    ∃ D', apnM D R i b = (D', R.put i { R.seg i with l := (R.seg i).l ++ [b], used := (R.seg i).used + needM b.length, sure := (R.seg i).l.length + 1 }, (R.seg i).l.length, 0) ∧
      Sys D' { R.seg i with l := (R.seg i).l ++ [b], used := (R.seg i).used + needM b.length, sure := (R.seg i).l.length + 1 } (recs ++ [(b, (R.seg i).epoch)]) [] ∧ D'.l.length = D.l.length ∧
      ∀ k, (k < (R.seg i).frm ∨ (R.seg i).frm + (R.seg i).n ≤ k) → D'.l[k]? = D.l[k]? := by
  obtain ⟨ha, hs⟩ := sys_app h hb hf
  obtain ⟨hy, hs2⟩ := sys_sync hs
  have hsl : ((R.seg i).l ++ [b]).length = (R.seg i).l.length + 1 := by simp
  simp only [hsl, List.nil_append, List.map_cons, List.map_nil] at hy hs2
  have hmod : apnM D R i b = ({ D with l := Dk.lay D.l (D.waits ++ ws ((R.seg i).frm + (R.seg i).used) (partsL (R.seg i).epoch (R.seg i).l.length b (needM b.length) 0)), waits := [] }, R.put i { R.seg i with l := (R.seg i).l ++ [b], used := (R.seg i).used + needM b.length, sure := (R.seg i).l.length + 1 }, (R.seg i).l.length, 0) := by
    unfold apnM
    rw [ha, if_neg (by simp), if_neg (by simp), hy]
    simp
  refine ⟨_, hmod, hs2, lay_len _ _, fun k hk => ?_⟩
  simp only
  have hreg := h.reg
  rw [h.now, List.nil_append, lay_at _ _ _ _ (by rw [partsL_len]; omega)]
  rw [if_neg (by rw [partsL_len]; omega)]
/-- There is none. -/
theorem sys_full {D : Dk} {R : Rp} {i : Nat} (hi : i < R.l.length) {recs : List Rec} (h : Sys D (R.seg i) recs []) {b : List UInt8} (hb : b.length ≤ 4096) (hf : ¬ (R.seg i).used + needM b.length ≤ (R.seg i).n) : apnM D R i b = (D, R, 0, 21) := by
  unfold apnM
  rw [app_space h hb hf, if_pos rfl]
  simp only
  rw [put_self R i hi]
end Go.Proofs.Ytjfidhjnbcmhfaa
namespace Go.Proofs.Ytjfidhjnbcmhfaa
open Go.NB (Dk Ent dknown dat)
open Go.NB.Crc

def sgF (n i : Nat) : Sg := ⟨i * n, n, 1, [], 0, 0, 0, 0⟩
theorem opn_fresh {m n M O : Nat} (h1 : 1 ≤ n) (hn : n < 4294967295) : ∀ (k i : Nat) (l : List Sg) (tab : List Ent), (i + k) * n ≤ m →
    opnM (Dk.fresh m) (0 : Int) (n : Int) O k i ⟨M, O, l, tab, false, 0⟩ = (⟨M, O, l ++ (List.range' i k).map (sgF n), tab, false, 0⟩, 0)
  | 0, i, l, tab, h => by simp [opnM]
  | k + 1, i, l, tab, h => by
    have e : (0 : Int) + (i : Int) * (n : Int) = ((i * n : Nat) : Int) := by simp
    have hle : i * n + n ≤ m := by
      have h2 : (i + 1) * n ≤ (i + (k + 1)) * n := Nat.mul_le_mul_right _ (by omega)
      rw [Nat.succ_mul] at h2
      omega
    obtain ⟨a, b, _⟩ := sys_fresh (m := m) (frm := i * n) (n := n) hle h1 hn
    rw [opnM, e, a, if_neg (fun h => h rfl), b]
    simp only [List.length_nil, lookM]
    rw [if_neg (fun h => h rfl)]
    have := opn_fresh (m := m) (M := M) (O := O) h1 hn k (i + 1) (l ++ [⟨i * n, n, 1, [], 0, 0, 0, 0⟩]) tab (by rw [show i + 1 + k = i + (k + 1) by omega]; exact h)
    rw [this, List.range'_succ]
    simp [sgF]
theorem ropn_fresh {m n M O : Nat} (h1 : 1 ≤ n) (hn : n < 4294967295) (hM : 1 ≤ M ∧ M ≤ 4) (hO : O < M) (hm : M * n ≤ m) :
    ropnM (Dk.fresh m) (0 : Int) (n : Int) (M : Int) (O : Int) = (⟨M, O, (List.range M).map (sgF n), [], false, 0⟩, 0) := by
  unfold ropnM
  rw [if_neg (by omega), Int.toNat_natCast, Int.toNat_natCast, opn_fresh h1 hn M 0 [] [] (by rw [Nat.zero_add]; exact hm), List.nil_append, List.range_eq_range']
theorem seg_fresh {n M O i : Nat} (hi : i < M) : Rp.seg ⟨M, O, (List.range M).map (sgF n), [], false, 0⟩ i = sgF n i := by
  unfold Rp.seg
  simp [List.getD_eq_getElem?_getD, hi]
theorem sysF {m n i : Nat} (h : i * n + n ≤ m) (h1 : 1 ≤ n) (hn : n < 4294967295) : Sys (Dk.fresh m) (sgF n i) [] [] := by
  obtain ⟨_, b, c⟩ := sys_fresh (m := m) (frm := i * n) (n := n) h h1 hn
  rw [b] at c
  exact c
end Go.Proofs.Ytjfidhjnbcmhfaa
namespace Go.Proofs.Ytjfidhjnbcmhfaa
open Go.NB (Dk Ent dknown dat)
open Go.NB.Crc

theorem look_ok (S : Sg) (m : Bool) : ∀ (n a : Nat) (t : List Ent), (∀ j, a ≤ j → j < a + n → (getM (S.l.getD j [])).2 = 0) → (lookM S m n a t).2 = 0
  | 0, a, t, h => rfl
  | n + 1, a, t, h => by
    rw [lookM, if_neg (fun hn => hn (h a (Nat.le_refl _) (by omega)))]
    exact look_ok S m n (a + 1) _ (fun j h1 h2 => h j (by omega) (by omega))
theorem look_other (S : Sg) : ∀ (n a : Nat) (t : List Ent), (lookM S false n a t).1 = t
  | 0, a, t => rfl
  | n + 1, a, t => by
    rw [lookM]
    split
    · rfl
    · exact look_other S n (a + 1) t
/-- Opening again where every segment opens and every record is an entry. -/
theorem opn_again {D : Dk} {n M O : Nat} (h : ∀ i, i < M → openE D ((i * n : Nat) : Int) (n : Int) = 0) (hg : ∀ i, i < M → ∀ b ∈ (openS D ((i * n : Nat) : Int) (n : Int)).l, (getM b).2 = 0) :
    ∀ (k i : Nat) (l : List Sg) (tab : List Ent), i + k ≤ M → ∃ tab', opnM D (0 : Int) (n : Int) O k i ⟨M, O, l, tab, false, 0⟩ = (⟨M, O, l ++ (List.range' i k).map (fun j => openS D ((j * n : Nat) : Int) (n : Int)), tab', false, 0⟩, 0) ∧
      (i ≤ O → O < i + k → tab' = (lookM (openS D ((O * n : Nat) : Int) (n : Int)) true (openS D ((O * n : Nat) : Int) (n : Int)).l.length 0 tab).1) ∧ (O < i ∨ i + k ≤ O → tab' = tab)
  | 0, i, l, tab, hk => ⟨tab, by simp [opnM], fun h1 h2 => by omega, fun _ => rfl⟩
  | k + 1, i, l, tab, hk => by
    have e : (0 : Int) + (i : Int) * (n : Int) = ((i * n : Nat) : Int) := by simp
    have hl : (lookM (openS D ((i * n : Nat) : Int) (n : Int)) (decide (i = O)) (openS D ((i * n : Nat) : Int) (n : Int)).l.length 0 tab).2 = 0 := look_ok _ _ _ _ _ (fun j _ h2 => by
      rw [Nat.zero_add] at h2
      rw [List.getD_eq_getElem?_getD, List.getElem?_eq_getElem h2]
      exact hg i (by omega) _ (List.getElem_mem h2))
    obtain ⟨tab', h1, h2, h3⟩ := opn_again h hg k (i + 1) (l ++ [openS D ((i * n : Nat) : Int) (n : Int)]) (lookM (openS D ((i * n : Nat) : Int) (n : Int)) (decide (i = O)) (openS D ((i * n : Nat) : Int) (n : Int)).l.length 0 tab).1 (by omega)
    refine ⟨tab', ?_, fun ho1 ho2 => ?_, fun ho => ?_⟩
    · rw [opnM, e, if_neg (fun hn => hn (h i (by omega))), if_neg (fun hn => hn hl), h1, List.range'_succ]
      simp
    · by_cases ho : i = O
      · subst ho
        rw [h3 (.inl (by omega))]
        simp
      · rw [h2 (by omega) (by omega), decide_eq_false ho, look_other]
    · rw [h3 (by omega), decide_eq_false (by omega), look_other]
end Go.Proofs.Ytjfidhjnbcmhfaa
namespace Go.Proofs.Ytjfidhjnbcmhfaa
open Go.NB (Dk Ent dknown dat B64 encU encB)
open Go.NB.Crc

/-- An entry that may be put: its bytes, and that they are got. -/
theorem put_ok {x y : Nat} {b : List UInt8} (hx : B64 x) (hy : B64 y) (hb : b.length ≤ 1024) : ∃ B, putM (x, y, b) = (B, 0) ∧ B.length ≤ b.length + 27 ∧ getM B = ((x, y, b), 0) := by
  refine ⟨encU x ++ encU y ++ encB b, ?_, ?_, get_put hx hy hb⟩
  · unfold putM; rw [if_neg (by simp only; omega)]
  · have h1 := NB.encU_len hx
    have h2 := NB.encU_len hy
    have h3 := NB.encU_len (show b.length < 18446744073709551616 by omega)
    simp only [encB, List.length_append]
    omega
theorem crash_runs {D : Dk} (hw : D.waits = []) : (D.crash []).l = D.l ∧ (D.crash []).waits = [] ∧ Runs (D.crash []) := by
  refine ⟨?_, rfl, rfl, rfl⟩
  show Dk.tears D.l D.waits [] = D.l
  rw [hw]; rfl
theorem need_small {b : List UInt8} (h : b.length ≤ 45) : needM b.length = 1 := by unfold needM; omega
/-- What the program does in 'awake', its values. -/
theorem awake_plain : ∃ D1 R1 D2 R2 R3, addM (Dk.fresh 30) ⟨3, 1, (List.range 3).map (sgF 10), [], false, 0⟩ (1, 2, [97]) = (D1, R1, 0, true, 0) ∧ addM D1 R1 (1, 2, [97]) = (D1, R1, 0, false, 0) ∧
    storeM D1 R1 0 0 (1, 2, [97]) = (D2, R2, 0) ∧ ropnM (D2.crash []) (0 : Int) (10 : Int) (3 : Int) (1 : Int) = (R3, 0) ∧ rreadM R3 1 0 = ((1, 2, [97]), 0) ∧ R3.l.map (·.sure) = [1, 1, 0] ∧
    D1.waits = [] ∧ D1.l.length = 30 ∧ D2.waits = [] ∧ D2.l.length = 30 ∧ R1.l.length = 3 ∧ R1.many = 3 ∧ R1.own = 1 ∧ R1.e = 0 ∧ R1.tab.length ≤ 1 ∧ R2.l.length = 3 ∧ R2.many = 3 ∧ R2.own = 1 ∧ R2.e = 0 ∧ R3.l.length = 3 ∧ R3.many = 3 ∧
    (∀ i, (R1.seg i).l.length ≤ 1 ∧ ∀ b ∈ (R1.seg i).l, b.length ≤ 45) ∧ (∀ i, (R2.seg i).l.length ≤ 1 ∧ ∀ b ∈ (R2.seg i).l, b.length ≤ 45) ∧ (∀ i, (R3.seg i).l.length ≤ 1 ∧ ∀ b ∈ (R3.seg i).l, b.length ≤ 45) := by
  obtain ⟨B, hB, hBl, hBg⟩ := put_ok (x := 1) (y := 2) (b := [97]) (by decide) (by decide) (by decide)
  simp only [List.length_singleton] at hBl
  have hn1 : needM B.length = 1 := need_small (by omega)
  obtain ⟨R0, hR0⟩ : ∃ R0 : Rp, R0 = ⟨3, 1, (List.range 3).map (sgF 10), [], false, 0⟩ := ⟨_, rfl⟩
  rw [← hR0]
  have hs0 : R0.seg 0 = sgF 10 0 := by rw [hR0]; exact seg_fresh (by omega)
  have hs1 : R0.seg 1 = sgF 10 1 := by rw [hR0]; exact seg_fresh (by omega)
  have hs2 : R0.seg 2 = sgF 10 2 := by rw [hR0]; exact seg_fresh (by omega)
  have f0 : Sys (Dk.fresh 30) (sgF 10 0) [] [] := sysF (by omega) (by omega) (by omega)
  have f1 : Sys (Dk.fresh 30) (sgF 10 1) [] [] := sysF (by omega) (by omega) (by omega)
  have f2 : Sys (Dk.fresh 30) (sgF 10 2) [] [] := sysF (by omega) (by omega) (by omega)
  -- the first append
  obtain ⟨D1, ha1, hy1, hl1, ho1⟩ := sys_apn (D := Dk.fresh 30) (R := R0) (i := 1) (recs := []) (by rw [hs1]; exact f1) (b := B) (by omega) (by rw [hs1, hn1]; show 0 + 1 ≤ 10; omega)
  rw [hs1, hn1] at ha1 hy1
  rw [hs1] at ho1
  have hw1 := hy1.now
  have hl1' : D1.l.length = 30 := by rw [hl1]; simp [Dk.fresh]
  have g0 : Sys D1 (sgF 10 0) [] [] := sys_other f0 hy1.runs hw1 hl1 (fun k _ h2 => ho1 k (.inl (by have h2' : k < 0 * 10 + 10 := h2; show k < 1 * 10; omega)))
  have g2 : Sys D1 (sgF 10 2) [] [] := sys_other f2 hy1.runs hw1 hl1 (fun k h1 _ => ho1 k (.inr (by have h1' : 2 * 10 ≤ k := h1; show 1 * 10 + 10 ≤ k; omega)))
  obtain ⟨S1, hS1⟩ : ∃ S1 : Sg, S1 = { sgF 10 1 with l := (sgF 10 1).l ++ [B], used := (sgF 10 1).used + 1, sure := (sgF 10 1).l.length + 1 } := ⟨_, rfl⟩
  rw [← hS1] at ha1 hy1
  have hS1l : S1.l = [B] := by rw [hS1]; rfl
  obtain ⟨R1, hR1⟩ : ∃ R1 : Rp, R1 = { R0.put 1 S1 with tab := [(1, 2, 0)] } := ⟨_, rfl⟩
  have hR0l : R0.l.length = 3 := by rw [hR0]; simp
  have hR1s : ∀ j, R1.seg j = if j = 1 then S1 else R0.seg j := fun j => by
    rw [hR1]
    exact put_at R0 1 j S1 (by rw [hR0l]; omega)
  have hR1l : R1.l.length = 3 := by rw [hR1]; show (R0.l.set 1 S1).length = 3; rw [List.length_set]; exact hR0l
  have hadd1 : addM (Dk.fresh 30) R0 (1, 2, [97]) = (D1, R1, 0, true, 0) := by
    unfold addM
    rw [if_neg (by rw [hR0]; decide), hB, if_neg (fun h => h rfl), if_neg (by rw [hR0]; decide), if_neg (by rw [hR0]; decide)]
    have e : R0.own = 1 := by rw [hR0]
    rw [e]
    simp only
    rw [ha1, if_neg (fun h => h rfl), hR1]
    have ht : R0.tab = [] := by rw [hR0]
    have hz : (sgF 10 1).l.length = 0 := rfl
    rw [ht, hz]
    rfl
  have hadd2 : addM D1 R1 (1, 2, [97]) = (D1, R1, 0, false, 0) := by
    unfold addM
    have e1 : R1.e = 0 := by rw [hR1]; show R0.e = 0; rw [hR0]
    have e2 : R1.tab = [(1, 2, 0)] := by rw [hR1]
    rw [if_neg (by rw [e1]; decide), hB, if_neg (fun h => h rfl), e2, if_pos (by decide)]
    rfl
  -- the second one
  have hR10 : R1.seg 0 = sgF 10 0 := by rw [hR1s, if_neg (by decide), hs0]
  obtain ⟨D2, ha2, hy2, hl2, ho2⟩ := sys_apn (D := D1) (R := R1) (i := 0) (recs := []) (by rw [hR10]; exact g0) (b := B) (by omega) (by rw [hR10, hn1]; show 0 + 1 ≤ 10; omega)
  rw [hR10, hn1] at ha2 hy2
  rw [hR10] at ho2
  have hw2 := hy2.now
  have k1 : Sys D2 S1 _ [] := sys_other hy1 hy2.runs hw2 hl2 (fun k h1 _ => ho2 k (.inr (by have h1' : 1 * 10 ≤ k := (by rw [hS1] at h1; exact h1); show 0 * 10 + 10 ≤ k; omega)))
  have k2 : Sys D2 (sgF 10 2) [] [] := sys_other g2 hy2.runs hw2 hl2 (fun k h1 _ => ho2 k (.inr (by have h1' : 2 * 10 ≤ k := h1; show 0 * 10 + 10 ≤ k; omega)))
  obtain ⟨S0, hS0⟩ : ∃ S0 : Sg, S0 = { sgF 10 0 with l := (sgF 10 0).l ++ [B], used := (sgF 10 0).used + 1, sure := (sgF 10 0).l.length + 1 } := ⟨_, rfl⟩
  rw [← hS0] at ha2 hy2
  have hS0l : S0.l = [B] := by rw [hS0]; rfl
  obtain ⟨R2, hR2⟩ : ∃ R2 : Rp, R2 = R1.put 0 S0 := ⟨_, rfl⟩
  have hsto : storeM D1 R1 0 0 (1, 2, [97]) = (D2, R2, 0) := by
    unfold storeM
    have e1 : R1.e = 0 := by rw [hR1]; show R0.e = 0; rw [hR0]
    have e2 : R1.many = 3 := by rw [hR1]; show R0.many = 3; rw [hR0]
    have e3 : R1.own = 1 := by rw [hR1]; show R0.own = 1; rw [hR0]
    rw [if_neg (by rw [e1]; decide), if_neg (by rw [e2, e3]; decide), hB, if_neg (fun h => h rfl)]
    show (if ((R1.seg 0).l.length : Int) < 0 then (D1, R1, (36 : Int)) else if (0 : Int) = ((R1.seg 0).l.length : Int) then ((apnM D1 R1 0 B).1, (apnM D1 R1 0 B).2.1, (apnM D1 R1 0 B).2.2.2) else _) = _
    rw [hR10]
    show (if (0 : Int) < 0 then (D1, R1, (36 : Int)) else if (0 : Int) = 0 then ((apnM D1 R1 0 B).1, (apnM D1 R1 0 B).2.1, (apnM D1 R1 0 B).2.2.2) else _) = _
    rw [if_neg (by decide), if_pos rfl, ha2, hR2]
  -- the crash, and opening again
  obtain ⟨c1, c2, c3⟩ := crash_runs hw2
  obtain ⟨D3, hD3⟩ : ∃ D3, D2.crash [] = D3 := ⟨_, rfl⟩
  rw [hD3] at c1 c2 c3
  have l3 : D3.l.length = D2.l.length := by rw [c1]
  have s0 := sys_other hy2 c3 c2 l3 (fun k _ _ => by rw [c1])
  have s1 := sys_other k1 c3 c2 l3 (fun k _ _ => by rw [c1])
  have s2 := sys_other k2 c3 c2 l3 (fun k _ _ => by rw [c1])
  have q0 := sys_again s0 (by rw [hS0]; show 1 ≤ 10; omega) (by rw [hS0]; show 1 + 1 < 256; omega)
  have q1 := sys_again s1 (by rw [hS1]; show 1 ≤ 10; omega) (by rw [hS1]; show 1 + 1 < 256; omega)
  have q2 := sys_again s2 (by show 1 ≤ 10; omega) (by show 1 + 1 < 256; omega)
  have e0 : (S0.frm : Int) = ((0 * 10 : Nat) : Int) ∧ (S0.n : Int) = ((10 : Nat) : Int) := by rw [hS0]; exact ⟨rfl, rfl⟩
  have e1 : (S1.frm : Int) = ((1 * 10 : Nat) : Int) ∧ (S1.n : Int) = ((10 : Nat) : Int) := by rw [hS1]; exact ⟨rfl, rfl⟩
  rw [e0.1, e0.2] at q0
  rw [e1.1, e1.2] at q1
  have q2' : openE D3 ((2 * 10 : Nat) : Int) ((10 : Nat) : Int) = 0 ∧ openS D3 ((2 * 10 : Nat) : Int) ((10 : Nat) : Int) = _ := ⟨q2.1, q2.2.1⟩
  obtain ⟨tab', hop, _, _⟩ := opn_again (D := D3) (n := 10) (M := 3) (O := 1) (fun i hi => by
    have h3 : i = 0 ∨ i = 1 ∨ i = 2 := by omega
    rcases h3 with rfl | rfl | rfl
    · exact q0.1
    · exact q1.1
    · exact q2'.1) (fun i hi b hb => by
    have h3 : i = 0 ∨ i = 1 ∨ i = 2 := by omega
    rcases h3 with rfl | rfl | rfl
    · rw [q0.2.1] at hb
      simp only [hS0l, List.mem_singleton] at hb
      rw [hb, hBg]
    · rw [q1.2.1] at hb
      simp only [hS1l, List.mem_singleton] at hb
      rw [hb, hBg]
    · rw [q2'.2] at hb
      have hb' : b ∈ ([] : List (List UInt8)) := hb
      cases hb') 3 0 [] [] (by omega)
  obtain ⟨R3, hR3⟩ : ∃ R3 : Rp, R3 = ⟨3, 1, [] ++ (List.range' 0 3).map (fun j => openS D3 ((j * 10 : Nat) : Int) ((10 : Nat) : Int)), tab', false, 0⟩ := ⟨_, rfl⟩
  rw [← hR3] at hop
  have hL3 : R3.l = [openS D3 ((0 * 10 : Nat) : Int) ((10 : Nat) : Int), openS D3 ((1 * 10 : Nat) : Int) ((10 : Nat) : Int), openS D3 ((2 * 10 : Nat) : Int) ((10 : Nat) : Int)] := by rw [hR3]; rfl
  have hro : ropnM D3 (0 : Int) (10 : Int) (3 : Int) (1 : Int) = (R3, 0) := by
    unfold ropnM
    rw [if_neg (by decide)]
    exact hop
  rw [q0.2.1, q1.2.1, q2'.2] at hL3
  have hR0e : ∀ i, (R0.seg i).l = [] := fun i => by
    by_cases hi : i < 3
    · rw [hR0, seg_fresh hi]; rfl
    · unfold Rp.seg
      rw [List.getD_eq_getElem?_getD, List.getElem?_eq_none (by rw [hR0l]; omega)]
      rfl
  have hR1e : ∀ i, (R1.seg i).l.length ≤ 1 ∧ ∀ b ∈ (R1.seg i).l, b.length ≤ 45 := fun i => by
    rw [hR1s]
    split
    · rw [hS1l]; exact ⟨by simp, fun b hb => by rw [List.mem_singleton.1 hb]; omega⟩
    · rw [hR0e]; exact ⟨by simp, fun b hb => by cases hb⟩
  have hR2s : ∀ j, R2.seg j = if j = 0 then S0 else R1.seg j := fun j => by
    rw [hR2]
    exact put_at R1 0 j S0 (by rw [hR1l]; omega)
  have hR2e : ∀ i, (R2.seg i).l.length ≤ 1 ∧ ∀ b ∈ (R2.seg i).l, b.length ≤ 45 := fun i => by
    rw [hR2s]
    split
    · rw [hS0l]; exact ⟨by simp, fun b hb => by rw [List.mem_singleton.1 hb]; omega⟩
    · exact hR1e i
  have hR2l : R2.l.length = 3 := by rw [hR2]; show (R1.l.set 0 S0).length = 3; rw [List.length_set]; exact hR1l
  have hR3l : R3.l.length = 3 := by rw [hL3]; rfl
  have hR3e : ∀ i, (R3.seg i).l.length ≤ 1 ∧ ∀ b ∈ (R3.seg i).l, b.length ≤ 45 := fun i => by
    unfold Rp.seg
    rw [hL3]
    match i with
    | 0 => show S0.l.length ≤ 1 ∧ ∀ b ∈ S0.l, b.length ≤ 45; rw [hS0l]; exact ⟨by simp, fun b hb => by rw [List.mem_singleton.1 hb]; omega⟩
    | 1 => show S1.l.length ≤ 1 ∧ ∀ b ∈ S1.l, b.length ≤ 45; rw [hS1l]; exact ⟨by simp, fun b hb => by rw [List.mem_singleton.1 hb]; omega⟩
    | 2 => exact ⟨by show 0 ≤ 1; omega, fun b hb => by have hb' : b ∈ ([] : List (List UInt8)) := hb; cases hb'⟩
    | k + 3 => exact ⟨by show 0 ≤ 1; omega, fun b hb => by have hb' : b ∈ ([] : List (List UInt8)) := hb; cases hb'⟩
  have m3 : R3.many = 3 := by rw [hR3]
  have hrd : rreadM R3 1 0 = ((1, 2, [97]), 0) := by
    unfold rreadM
    rw [if_neg (by rw [m3]; decide)]
    have hsg : R3.seg ((1 : Int)).toNat = ⟨S1.frm, S1.n, topM (regL D3.l S1.frm S1.n) + 1, S1.l, S1.used, S1.l.length, 0, 0⟩ := by
      unfold Rp.seg; rw [hL3]; rfl
    rw [hsg]
    have hrm : redM ⟨S1.frm, S1.n, topM (regL D3.l S1.frm S1.n) + 1, S1.l, S1.used, S1.l.length, 0, 0⟩ 0 = (B, 0) := by
      unfold redM
      rw [if_neg (by simp [hS1l]), if_neg (by simp)]
      simp [hS1l]
    rw [hrm, if_neg (fun h => h rfl)]
    exact hBg
  exact ⟨D1, R1, D2, R2, R3, hadd1, hadd2, hsto, by rw [hD3]; exact hro, hrd, by rw [hL3]; simp [hS0l, hS1l, sgF], hw1, hl1', hw2, hl2.trans hl1', hR1l, by rw [hR1]; show R0.many = 3; rw [hR0], by rw [hR1]; show R0.own = 1; rw [hR0], by rw [hR1]; show R0.e = 0; rw [hR0], by rw [hR1]; simp, hR2l, by rw [hR2, hR1]; show R0.many = 3; rw [hR0], by rw [hR2, hR1]; show R0.own = 1; rw [hR0], by rw [hR2, hR1]; show R0.e = 0; rw [hR0], hR3l, m3, hR1e, hR2e, hR3e⟩
end Go.Proofs.Ytjfidhjnbcmhfaa
