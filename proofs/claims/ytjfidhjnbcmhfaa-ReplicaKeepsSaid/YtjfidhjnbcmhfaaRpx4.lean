/- A replica that stands calmly on its disk: nothing waits, nothing stops. No walk in sight. A replica's Store of bad arguments, once more, over its box alone; its disk turned by somebody else. A replica's Store into its own segment, walked over its box alone. How many writes wait behind an append; blocks that are somebody else's, over HasRp. The replica's statements: 'awake', walked. The calls of a replica that stands calmly on its disk. A replica beside blocks of the call's own that turn. -/
import Derived.Test.YtjfidhjnbcmhfaaRpx3
import Derived.Test.YtjfidhjnbcmhfaaRpx2
namespace Go.Proofs.Ytjfidhjnbcmhfaa
open Go.NB (Dk Ent dknown dat B64 encU encB)
open Go.NB.Crc

/-- Segments of n blocks each on a disk of m. -/
structure Calm (m n : Nat) (D : Dk) (R : Rp) : Prop where
  len : D.l.length = m
  waits : D.waits = []
  full : R.l.length = R.many
  many : R.many ≤ 4
  own : R.own < R.many
  e : R.e = 0
  sys : ∀ i, i < R.many → ∃ recs, Sys D (R.seg i) recs []
  at_ : ∀ i, i < R.many → (R.seg i).frm = i * n ∧ (R.seg i).n = n ∧ (R.seg i).gone = 0
  big : ∀ i, ∀ b ∈ (R.seg i).l, b.length ≤ 4096
theorem seg_none {R : Rp} {i : Nat} (h : R.l.length ≤ i) : R.seg i = sgZ := by
  unfold Rp.seg
  rw [List.getD_eq_getElem?_getD, List.getElem?_eq_none h]; rfl
theorem Calm.sure {m n : Nat} {D : Dk} {R : Rp} (h : Calm m n D R) (i : Nat) : (R.seg i).sure = (R.seg i).l.length := by
  by_cases hi : i < R.many
  · obtain ⟨recs, hs⟩ := h.sys i hi
    rw [hs.sure, hs.len]; rfl
  · rw [seg_none (by have := h.full; omega)]; rfl
theorem Calm.used {m n : Nat} {D : Dk} {R : Rp} (h : Calm m n D R) (i : Nat) (hi : i < R.many) : (R.seg i).used = nblk (R.seg i).l ∧ (R.seg i).used ≤ n ∧ (R.seg i).l.length ≤ n := by
  obtain ⟨recs, hs⟩ := h.sys i hi
  have h1 := hs.fit
  have h2 := hs.used
  have h3 := nblk_ge (R.seg i).l
  rw [(h.at_ i hi).2.1] at h1
  exact ⟨h2, h1, by omega⟩
theorem Calm.llen {m n : Nat} {D : Dk} {R : Rp} (h : Calm m n D R) (i : Nat) : (R.seg i).l.length ≤ n := by
  by_cases hi : i < R.many
  · exact (h.used i hi).2.2
  · rw [seg_none (by have := h.full; omega)]; exact Nat.zero_le _
theorem Calm.tab {m n : Nat} {D : Dk} {R : Rp} (h : Calm m n D R) (t : List Ent) : Calm m n D { R with tab := t } :=
  { len := h.len, waits := h.waits, full := h.full, many := h.many, own := h.own, e := h.e, sys := h.sys, at_ := h.at_, big := h.big }
theorem Calm.seal {m n : Nat} {D : Dk} {R : Rp} (h : Calm m n D R) (b : Bool) : Calm m n D { R with sealed := b } :=
  { len := h.len, waits := h.waits, full := h.full, many := h.many, own := h.own, e := h.e, sys := h.sys, at_ := h.at_, big := h.big }
/-- Behind an append. -/
def Rp.more (R : Rp) (i : Nat) (b : List UInt8) : Rp := R.put i { R.seg i with l := (R.seg i).l ++ [b], used := (R.seg i).used + needM b.length, sure := (R.seg i).l.length + 1 }
theorem more_seg {R : Rp} {i : Nat} {b : List UInt8} (hi : i < R.l.length) (j : Nat) : ((R.more i b).seg j).l = if j = i then (R.seg i).l ++ [b] else (R.seg j).l := by
  unfold Rp.more
  rw [put_at R i j _ hi]
  split <;> rfl
theorem calm_apn {m n : Nat} {D : Dk} {R : Rp} (h : Calm m n D R) {i : Nat} (hi : i < R.many) {b : List UInt8} (hb : b.length ≤ 4096) (hf : (R.seg i).used + needM b.length ≤ n) :
    ∃ D', apnM D R i b = (D', R.more i b, (R.seg i).l.length, 0) ∧ Calm m n D' (R.more i b) := by
  obtain ⟨recs, hs⟩ := h.sys i hi
  obtain ⟨ha, hb1, hc⟩ := h.at_ i hi
  obtain ⟨D', h1, h2, h3, h4⟩ := sys_apn hs hb (by rw [hb1]; exact hf)
  have hil : i < R.l.length := by rw [h.full]; exact hi
  have hsg := fun j => put_at R i j { R.seg i with l := (R.seg i).l ++ [b], used := (R.seg i).used + needM b.length, sure := (R.seg i).l.length + 1 } hil
  refine ⟨D', h1, ?_⟩
  exact
  { len := by rw [h3]; exact h.len
    waits := h2.now
    full := by show (R.l.set i _).length = _; rw [List.length_set]; exact h.full
    many := h.many
    own := h.own
    e := h.e
    sys := fun j hj => by
      have hj' : j < R.many := hj
      unfold Rp.more
      rw [hsg j]
      split
      · exact ⟨_, h2⟩
      · rename_i hne
        obtain ⟨recj, hsj⟩ := h.sys j hj'
        obtain ⟨ja, jb, _⟩ := h.at_ j hj'
        refine ⟨recj, sys_other hsj h2.runs h2.now h3 (fun k k1 k2 => h4 k ?_)⟩
        rw [ja] at k1 k2
        rw [jb] at k2
        rw [ha, hb1]
        rcases Nat.lt_or_gt_of_ne hne with hlt | hlt
        · left
          have := Nat.mul_le_mul_right n (show j + 1 ≤ i by omega)
          rw [Nat.succ_mul] at this
          omega
        · right
          have := Nat.mul_le_mul_right n (show i + 1 ≤ j by omega)
          rw [Nat.succ_mul] at this
          omega
    at_ := fun j hj => by
      unfold Rp.more
      rw [hsg j]
      split
      · rename_i e; subst e; exact ⟨ha, hb1, hc⟩
      · exact h.at_ j hj
    big := fun j c hc => by
      rw [more_seg hil] at hc
      split at hc
      · rcases List.mem_append.1 hc with hc | hc
        · exact h.big i c hc
        · rw [List.mem_singleton.1 hc]; exact hb
      · exact h.big j c hc }
theorem calm_full {m n : Nat} {D : Dk} {R : Rp} (h : Calm m n D R) {i : Nat} (hi : i < R.many) {b : List UInt8} (hb : b.length ≤ 4096) (hf : ¬ (R.seg i).used + needM b.length ≤ n) : apnM D R i b = (D, R, 0, 21) := by
  obtain ⟨recs, hs⟩ := h.sys i hi
  exact sys_full (by rw [h.full]; exact hi) hs hb (by rw [(h.at_ i hi).2.1]; exact hf)
theorem calm_fresh {m n M O : Nat} (h1 : 1 ≤ n) (hn : n < 4294967295) (hM : M ≤ 4) (hO : O < M) (hm : M * n ≤ m) : Calm m n (Dk.fresh m) ⟨M, O, (List.range M).map (sgF n), [], false, 0⟩ where
  len := by simp [Dk.fresh]
  waits := rfl
  full := by simp
  many := hM
  own := hO
  e := rfl
  sys := fun i hi => by
    have hi' : i < M := hi
    rw [seg_fresh hi']
    have := Nat.mul_le_mul_right n (show i + 1 ≤ M by omega)
    rw [Nat.succ_mul] at this
    exact ⟨[], sysF (by omega) h1 hn⟩
  at_ := fun i hi => by rw [seg_fresh hi]; exact ⟨rfl, rfl, rfl⟩
  big := fun i b hb => by
    by_cases hi : i < M
    · rw [seg_fresh hi] at hb; cases hb
    · rw [seg_none (by simp; omega)] at hb; cases hb
/-- Bytes of an entry. -/
def bytE (x : En) : List UInt8 := encU x.1 ++ encU x.2.1 ++ encB x.2.2
theorem put_byt {x : En} (hx : B64 x.1) (hy : B64 x.2.1) (hb : x.2.2.length ≤ 1024) : putM x = (bytE x, 0) ∧ (bytE x).length ≤ x.2.2.length + 27 ∧ getM (bytE x) = (x, 0) := by
  obtain ⟨x, y, b⟩ := x
  simp only at hx hy hb
  refine ⟨?_, ?_, get_put hx hy hb⟩
  · unfold putM; rw [if_neg (by simp only; omega)]; rfl
  · have h1 := NB.encU_len hx
    have h2 := NB.encU_len hy
    have h3 := NB.encU_len (show b.length < 18446744073709551616 by omega)
    simp only [bytE, encB, List.length_append]
    omega
theorem byt_inj {x y : En} (hx : B64 x.1 ∧ B64 x.2.1 ∧ x.2.2.length ≤ 1024) (hy : B64 y.1 ∧ B64 y.2.1 ∧ y.2.2.length ≤ 1024) (h : bytE x = bytE y) : x = y := by
  have h1 := (put_byt hx.1 hx.2.1 hx.2.2).2.2
  have h2 := (put_byt hy.1 hy.2.1 hy.2.2).2.2
  rw [h, h2] at h1
  exact (congrArg Prod.fst h1).symm
/-- An entry that is added. -/
theorem calm_add_old {m n : Nat} {D : Dk} {R : Rp} (h : Calm m n D R) {x : En} (hx : B64 x.1) (hy : B64 x.2.1) (hb : x.2.2.length ≤ 1024) (hk : dknown R.tab x.1 x.2.1 = true) : addM D R x = (D, R, dat R.tab x.1 x.2.1, false, 0) := by
  unfold addM
  rw [if_neg (fun hn => hn h.e), (put_byt hx hy hb).1, if_neg (fun h => h rfl), if_pos hk]
theorem calm_add_sealed {m n : Nat} {D : Dk} {R : Rp} (h : Calm m n D R) {x : En} (hx : B64 x.1) (hy : B64 x.2.1) (hb : x.2.2.length ≤ 1024) (hk : dknown R.tab x.1 x.2.1 = false) (hs : R.sealed = true) : addM D R x = (D, R, 0, false, 34) := by
  unfold addM
  rw [if_neg (fun hn => hn h.e), (put_byt hx hy hb).1, if_neg (fun h => h rfl), if_neg (by rw [hk]; decide), if_pos hs]
theorem calm_add_new {m n : Nat} {D : Dk} {R : Rp} (h : Calm m n D R) {x : En} (hx : B64 x.1) (hy : B64 x.2.1) (hb : x.2.2.length ≤ 1024) (hk : dknown R.tab x.1 x.2.1 = false) (hs : R.sealed = false) (hf : (R.seg R.own).used + needM (bytE x).length ≤ n) :
    ∃ D', addM D R x = (D', { R.more R.own (bytE x) with tab := R.tab ++ [(x.1, x.2.1, ((R.seg R.own).l.length : Int))] }, ((R.seg R.own).l.length : Int), true, 0) ∧ Calm m n D' { R.more R.own (bytE x) with tab := R.tab ++ [(x.1, x.2.1, ((R.seg R.own).l.length : Int))] } := by
  obtain ⟨D', h1, h2⟩ := calm_apn h h.own (b := bytE x) (by have := (put_byt hx hy hb).2.1; omega) hf
  refine ⟨D', ?_, h2.tab _⟩
  unfold addM
  rw [if_neg (fun hn => hn h.e), (put_byt hx hy hb).1, if_neg (fun h => h rfl), if_neg (by rw [hk]; decide), if_neg (by rw [hs]; decide)]
  simp only
  rw [h1, if_neg (fun h => h rfl)]
  have : (R.more R.own (bytE x)).tab = R.tab := rfl
  simp only [this, dnote]
  rw [hk]
  rfl
theorem calm_add_full {m n : Nat} {D : Dk} {R : Rp} (h : Calm m n D R) {x : En} (hx : B64 x.1) (hy : B64 x.2.1) (hb : x.2.2.length ≤ 1024) (hk : dknown R.tab x.1 x.2.1 = false) (hs : R.sealed = false) (hf : ¬ (R.seg R.own).used + needM (bytE x).length ≤ n) :
    addM D R x = (D, R, 0, false, 21) := by
  have h1 := calm_full h h.own (b := bytE x) (by have := (put_byt hx hy hb).2.1; omega) hf
  unfold addM
  rw [if_neg (fun hn => hn h.e), (put_byt hx hy hb).1, if_neg (fun h => h rfl), if_neg (by rw [hk]; decide), if_neg (by rw [hs]; decide)]
  simp only
  rw [h1]
  exact if_pos (show (21 : Int) ≠ 0 by decide)
/-- An entry that is stored. -/
theorem calm_store_new {m n : Nat} {D : Dk} {R : Rp} (h : Calm m n D R) {i : Nat} (hi : i < R.many) (ho : i ≠ R.own) {x : En} (hx : B64 x.1) (hy : B64 x.2.1) (hb : x.2.2.length ≤ 1024) (hf : (R.seg i).used + needM (bytE x).length ≤ n) :
    ∃ D', storeM D R (i : Int) ((R.seg i).l.length : Int) x = (D', R.more i (bytE x), 0) ∧ Calm m n D' (R.more i (bytE x)) := by
  obtain ⟨D', h1, h2⟩ := calm_apn h hi (b := bytE x) (by have := (put_byt hx hy hb).2.1; omega) hf
  refine ⟨D', ?_, h2⟩
  unfold storeM
  rw [if_neg (fun hn => hn h.e), if_neg (by omega), (put_byt hx hy hb).1, if_neg (fun h => h rfl), Int.toNat_natCast, if_neg (by omega), if_pos rfl]
  simp only
  rw [h1]
theorem calm_store_later {m n : Nat} {D : Dk} {R : Rp} (h : Calm m n D R) {i j : Nat} (hi : i < R.many) (ho : i ≠ R.own) {x : En} (hx : B64 x.1) (hy : B64 x.2.1) (hb : x.2.2.length ≤ 1024) (hj : (R.seg i).l.length < j) : storeM D R (i : Int) (j : Int) x = (D, R, 36) := by
  unfold storeM
  rw [if_neg (fun hn => hn h.e), if_neg (by omega), (put_byt hx hy hb).1, if_neg (fun h => h rfl), Int.toNat_natCast, if_pos (by omega)]
theorem calm_red {m n : Nat} {D : Dk} {R : Rp} (h : Calm m n D R) {i j : Nat} (hi : i < R.many) (hj : j < (R.seg i).l.length) : redM (R.seg i) (j : Int) = ((R.seg i).l.getD j [], 0) := by
  unfold redM
  rw [if_neg (by omega), if_neg (by rw [(h.at_ i hi).2.2]; omega), Int.toNat_natCast]
theorem calm_store_old {m n : Nat} {D : Dk} {R : Rp} (h : Calm m n D R) {i j : Nat} (hi : i < R.many) (ho : i ≠ R.own) {x : En} (hx : B64 x.1) (hy : B64 x.2.1) (hb : x.2.2.length ≤ 1024) (hj : j < (R.seg i).l.length) : storeM D R (i : Int) (j : Int) x = (D, R, if (R.seg i).l.getD j [] = bytE x then 0 else 33) := by
  unfold storeM
  rw [if_neg (fun hn => hn h.e), if_neg (by omega), (put_byt hx hy hb).1, if_neg (fun h => h rfl), Int.toNat_natCast, if_neg (by omega), if_neg (by omega), calm_red h hi hj]
  simp only
  by_cases e : (R.seg i).l.getD j [] = bytE x
  · rw [if_pos e, if_neg (fun h => h e)]
  · rw [if_neg e, if_pos e]
theorem calm_read {m n : Nat} {D : Dk} {R : Rp} (h : Calm m n D R) {i j : Nat} (hi : i < R.many) (hj : j < (R.seg i).l.length) : rreadM R (i : Int) (j : Int) = getM ((R.seg i).l.getD j []) := by
  unfold rreadM
  rw [if_neg (by omega), Int.toNat_natCast, calm_red h hi hj, if_neg (fun h => h rfl)]
/-- What is sure of each segment. -/
theorem calm_sures {m n : Nat} {D : Dk} {R : Rp} (h : Calm m n D R) : R.l.map (·.sure) = (List.range R.many).map fun i => (R.seg i).l.length := by
  apply List.ext_getElem
  · simp [h.full]
  · intro i h1 h2
    have hi : i < R.l.length := by simpa using h1
    have h3 := h.sure i
    have h4 : R.seg i = R.l[i] := by unfold Rp.seg; rw [List.getD_eq_getElem?_getD, List.getElem?_eq_getElem hi]; rfl
    simp only [List.getElem_map, List.getElem_range]
    rw [← h4, h3]
theorem calm_waits {m n : Nat} {D : Dk} {R : Rp} (h : Calm m n D R) : D.waits.length ≤ 900000 := by rw [h.waits]; exact Nat.zero_le _
end Go.Proofs.Ytjfidhjnbcmhfaa
namespace Go.Proofs.Ytjfidhjnbcmhfaa
open Go.RowKit
open Go.NB (Rd Dk Kp Stp Off Dis val I64 Rw oneB dB rw_new B64)

section
variable {X : Nat → Prop} {w0 w w' : World} {r p t : Nat} {q : Nat → Nat} {F : Nat → Nat → Prop} {G G' Ft : Nat → Prop} {D D' : Dk} {R : Rp}
/-- The disk has turned (a crash, a stop): the replica in memory stands. -/
theorem IsRp.disk (h : IsRp X w0 w r p t q F G Ft D R) {base : Nat} (hb : w0.heap.size ≤ base) (hd : HasD w' base p G' D') (hs : Stp G G' w w') : IsRp X w0 w' r p t q F G' Ft D' R := by
  have hg : ∀ k, k < w.heap.size → ¬ G k → ¬ G' k := fun k hk h1 h2 => (hs.sub k h2).elim h1 (fun h3 => by omega)
  obtain ⟨baset, hbt, ht⟩ := h.tab
  obtain ⟨based, hbd, hdd⟩ := h.dsk
  exact
  { box := h.box.keep hs.kp (h.off r (.inl rfl)).2.1, len := h.len, many := h.many, own := h.own
    seg := fun i hi => by obtain ⟨bs, h1, h2⟩ := h.seg i hi; exact ⟨bs, h1, h2.keep hs.kp (h.fg i hi)⟩
    dsk := ⟨base, hb, hd⟩
    tab := ⟨baset, hbt, ht.keep hs.kp (fun k hf hk => h.gt k hk hf)⟩
    fg := fun i hi k hf => by
      obtain ⟨bs, h1, h2⟩ := h.seg i hi
      exact hg k (h2.foot k hf).2 (h.fg i hi k hf)
    ff := h.ff, ft := h.ft
    gt := fun k hk hf => hg k (ht.foot k hf).2 (fun h1 => h.gt k h1 hf) hk
    off := fun k hk => ⟨(h.off k hk).1, hg k (hk.elim (fun e => e ▸ h.box.lt) (fun hx => h.xlt k hx)) (h.off k hk).2.1, (h.off k hk).2.2⟩
    rx := h.rx
    xlt := fun k hk => Nat.lt_of_lt_of_le (h.xlt k hk) hs.kp.size
    low := bel h.low (hs.low (base := w0.heap.size) h.low.size (fun k hk => Nat.le_trans hbd (hdd.foot k hk).1)) (Nat.le_refl _)
    rlow := h.rlow }
theorem rpcrash_any (h : HasRp X w0 w r p D R) (a : Option Addr) (n c : Nat) (b : List UInt8) (hr : NB.RdB w a n c b) (hX : ∀ k o, a = some ⟨k, o, none⟩ → b ≠ [] → X k ∨ k < w0.heap.size) (hwn : D.waits.length ≤ 1000000) :
    Calls Try.prog 17 #[.pointer (some ⟨p, 0, none⟩), .slice a n c] w fun e w' => e = .returned (.tuple #[]) ∧ HasRp X w0 w' r p (D.crash b) R ∧ Kp (fun k => ¬ X k) w w' := by
  obtain ⟨t, q, F, G, Ft, h⟩ := h
  obtain ⟨based, hbd, hd⟩ := h.dsk
  have hof : Off G w a n c b := ⟨hr, fun k o e hn hg => by
    rcases hX k o e hn with hx | hx
    · exact (h.off k (.inr hx)).2.1 hg
    · have := (hd.foot k hg).1; omega⟩
  refine (dcrash_any w based p G D a n c b hd hof hwn).mono ?_
  rintro e w' ⟨rfl, G', hd', hs⟩
  exact ⟨rfl, ⟨t, q, F, G', Ft, h.disk hbd hd' hs⟩, hs.kp.imp fun k hg hx => (h.off k (.inr hx)).2.1 hg⟩
theorem rpstop_any (h : HasRp X w0 w r p D R) (x : Int) (hx : x ≤ 9223372036854775807) :
    Calls Try.prog 16 #[.pointer (some ⟨p, 0, none⟩), .int .i64 x] w fun e w' => e = .returned (.tuple #[]) ∧ HasRp X w0 w' r p (D.stop x) R ∧ Kp (fun k => ¬ X k) w w' := by
  obtain ⟨t, q, F, G, Ft, h⟩ := h
  obtain ⟨based, hbd, hd⟩ := h.dsk
  refine (dstop_any w based p G D x hx hd).mono ?_
  rintro e w' ⟨rfl, G', hd', hs⟩
  exact ⟨rfl, ⟨t, q, F, G', Ft, h.disk hbd hd' hs⟩, hs.kp.imp fun k hg hx => (h.off k (.inr hx)).2.1 hg⟩
end
end Go.Proofs.Ytjfidhjnbcmhfaa
namespace Go.Proofs.Ytjfidhjnbcmhfaa
open Go.RowKit
open Go.NB (Rd Dk Kp Stp Off Dis val I64 Rw oneB dB rw_new B64)

section
variable {w : World} {r t : Nat} {q : Nat → Nat} {R : Rp}
set_option maxHeartbeats 400000 in
theorem rup_box (h : Rw w r (rpL R q t) 62) : Calls Try.prog 23 #[.pointer (some ⟨r, 0, none⟩)] w fun e w' => e = .returned (.int .i64 R.e) ∧ w' = w := by
  have c8 := h.cell 8 _ rfl
  go_enter Try.func23, Try.ntmps23
  go_wp2
  go_ret
  exact ⟨rfl, rfl⟩
set_option maxRecDepth 100000 in
set_option maxHeartbeats 4000000 in
theorem rpst_box (h : Rw w r (rpL R q t) 62) (at_ : Int) (c s : Nat) (a : Option Addr) (n k : Nat) (he : R.e = 0) (ho : R.own < R.many) :
    Calls Try.prog 11 #[.pointer (some ⟨r, 0, none⟩), .int .i64 (R.own : Int), .int .i64 at_, .agg #[.int .u64 (c : Int), .int .u64 (s : Int), .slice a n k]] w fun e w' => e = .returned (.int .i64 1) ∧ Below w.heap.size w w' := by
  have ob := oneB w (.cells #[.int .u64 (c : Int), .int .u64 (s : Int), .slice a n k] 34)
  have h1 := h.below ob
  have hup := rup_box h1
  rw [he] at hup
  have HUP := Go.Lib.hid hup
  have c4 := h1.cell 4 _ rfl
  have c5 := h1.cell 5 _ rfl
  have g1 : ¬ (R.own : Int) < 0 := by omega
  have g2 : ¬ (R.many : Int) ≤ (R.own : Int) := by omega
  have d2 := decide_eq_false g2
  have d2n : decide (R.many ≤ R.own) = false := decide_eq_false (by omega)
  clear hup he h h1
  go_enter Try.func11, Try.ntmps11
  go_wp2_with (first | (go_at_call 23; refine HUP.out.mono ?_; rintro e w1 ⟨rfl, e2⟩; subst w1))
  go_ret
  exact ⟨rfl, ob⟩
end
end Go.Proofs.Ytjfidhjnbcmhfaa
namespace Go.Proofs.Ytjfidhjnbcmhfaa
open Go.RowKit
open Go.NB (Rd Dk Kp Stp Off Dis val I64 Rw)

theorem write_w (D : Dk) (i : Int) (b : List UInt8) : (D.write i b).1.waits.length ≤ D.waits.length + 1 := by
  unfold Dk.write
  split
  · exact Nat.le_succ _
  split
  · exact Nat.le_succ _
  split
  · exact Nat.le_succ _
  · simp
theorem wrM_w (S : Sg) (b : List UInt8) (many : Nat) : ∀ (n i : Nat) (D : Dk), (wrM S b many n i D).1.waits.length ≤ D.waits.length + n
  | 0, i, D => Nat.le_refl _
  | n + 1, i, D => by
    have h1 := write_w D ((S.frm + S.used + i : Nat) : Int) (blkL S.epoch (S.l.length + 1) i many (piece b i))
    rw [wrM]
    split
    · omega
    · have h2 := wrM_w S b many n (i + 1) (D.write ((S.frm + S.used + i : Nat) : Int) (blkL S.epoch (S.l.length + 1) i many (piece b i))).1
      omega
theorem app_w (D : Dk) (S : Sg) (b : List UInt8) : (appM D S b).1.waits.length ≤ D.waits.length + 92 := by
  have hw := wrM_w S b (needM b.length) (needM b.length) 0 D
  unfold appM
  split
  · exact Nat.le_add_right _ _
  rename_i hb
  have hn : needM b.length ≤ 92 := by unfold needM; omega
  split
  · exact Nat.le_add_right _ _
  split
  · exact Nat.le_add_right _ _
  split
  · exact Nat.le_trans hw (by omega)
  · exact Nat.le_trans hw (by omega)
theorem HasRp.addX {X Y : Nat → Prop} {w0 w w' : World} {r p : Nat} {D : Dk} {R : Rp} (h : HasRp X w0 w r p D R) (hb : Below w.heap.size w w') (hY : ∀ k, Y k → X k ∨ k < w0.heap.size ∨ w.heap.size ≤ k) (hlt : ∀ k, Y k → k < w'.heap.size) : HasRp Y w0 w' r p D R := by
  obtain ⟨t, q, F, G, Ft, h⟩ := h
  exact ⟨t, q, F, G, Ft, h.addX hb hY hlt⟩
end Go.Proofs.Ytjfidhjnbcmhfaa
namespace Go.Proofs.Ytjfidhjnbcmhfaa
open Go.RowKit
open Go.NB (Rd Dk Kp Stp Off Dis val I64 Rw oneB dB rw_new B64)

theorem dd_h {w0 w : World} {p : Nat} {D : Dk} (h : Dd w0 w p D) : DdH (fun _ => False) w0 w p D := by
  obtain ⟨based, G, h2, h5, h6⟩ := h
  exact ⟨based, G, h2, h5, h6, fun k hk => hk.elim⟩
set_option maxRecDepth 100000 in
set_option maxHeartbeats 16000000 in
theorem rawake_any (w : World) : Calls Try.prog 8 #[] w fun e w' => e = .returned (.bool true) ∧ Below w.heap.size w w' := by
  obtain ⟨D1, R1, D2, R2, R3, ha1, ha2, hst, hop, hrd, hsu, hw1, hl1, hw2, hl2, hR1l, hR1m, hR1o, hR1e, hR1t, hR2l, hR2m, hR2o, hR2e, hR3l, hR3m, hb1, hb2, hb3⟩ := awake_plain
  obtain ⟨R0, hR0⟩ : ∃ R0 : Rp, R0 = ⟨3, 1, (List.range 3).map (sgF 10), [], false, 0⟩ := ⟨_, rfl⟩
  rw [← hR0] at ha1
  obtain ⟨D0, hD0⟩ : ∃ D0 : Dk, D0 = Dk.fresh 30 := ⟨_, rfl⟩
  have hw0 : D0.waits = [] := by rw [hD0]; rfl
  have hl0 : D0.l.length = 30 := by rw [hD0]; simp [Dk.fresh]
  have hop0 : ropnM D0 (0 : Int) (10 : Int) (3 : Int) (1 : Int) = (R0, 0) := by
    rw [hD0, hR0]; exact ropn_fresh (m := 30) (n := 10) (M := 3) (O := 1) (by omega) (by omega) (by omega) (by omega) (by omega)
  have hnew := qd_new w w (Below.refl _ _) 30 (by omega) (by omega)
  unfold NewDd at hnew
  rw [← hD0] at hnew ha1
  have HNEW := Go.Lib.hid hnew
  clear hnew hD0
  have hopn := fun p v h => rpop_any (X := fun _ => False) (w0 := w) (w := v) (p := p) (D := D0) h 0 10 3 1 (by omega) (by omega) (by rw [hw0]; simp) (by omega)
  have hopn' : ∀ p v, DdH (fun _ => False) w v p D0 → Calls Try.prog 10 #[.pointer (some ⟨p, 0, none⟩), .int .i64 0, .int .i64 10, .int .i64 3, .int .i64 1] v (OpnR (fun _ => False) w v p D0 (R0, 0)) := fun p v h => by
    have h2 := hopn p v h
    rw [show ((0 : Nat) : Int) = 0 from rfl, hop0] at h2
    exact h2
  have HOPN := Go.Lib.hid hopn'
  clear hopn hopn'
  have kc := fun (w : World) (C : Array Value) (n c : Nat) => Lib.run_convert_bytes_const (P := Try.prog) w 22 5 C n c Try.underlying22 Try.underlying5
  have k1 : (1 : Nat) ≤ maxLen := by unfold maxLen; omega
  go_enter Try.func8, Try.ntmps8
  go_wp2_with (first
    | (go_at_call 9; refine HNEW.out.mono ?_; rintro e w1 ⟨p, rfl, hD1⟩)
    | (go_at_call 10; refine (HOPN.out _ _ (dd_h hD1)).mono ?_; rintro e w2 ⟨hh, _⟩; obtain ⟨_, r, rfl, hR⟩ := hh.resolve_left (fun h => h.1 rfl)))
  have B2 : Below w.heap.size w w2 := by obtain ⟨_, _, _, _, _, h⟩ := hR; exact h.low
  have o1 := oneB w2 (.cells #[.int .u8 97] 5 (1, 2))
  have hrd4 : NB.RdB (w2.alloc (.cells #[.int .u8 97] 5 (1, 2))) (some ⟨w2.heap.size, 0, none⟩) 1 1 [97] := NB.rdB_lit [97] rfl rfl k1 rfl
  obtain ⟨w3, hw3⟩ : ∃ w3, w2.alloc (.cells #[.int .u8 97] 5 (1, 2)) = w3 := ⟨_, rfl⟩
  rw [hw3] at o1 hrd4 ⊢
  have hs3 : w3.heap.size = w2.heap.size + 1 := by rw [← hw3]; simp
  have o2 := oneB w3 (.cells #[.int .u64 1, .int .u64 2, .slice (some ⟨w2.heap.size, 0, none⟩) 1 1] 34)
  have RX : Rw (w3.alloc (.cells #[.int .u64 1, .int .u64 2, .slice (some ⟨w2.heap.size, 0, none⟩) 1 1] 34)) (w2.heap.size + 1) [.int .u64 1, .int .u64 2, .slice (some ⟨w2.heap.size, 0, none⟩) 1 1] 34 := NB.rw_new w3 [.int .u64 1, .int .u64 2, .slice (some ⟨w2.heap.size, 0, none⟩) 1 1] _ hs3.symm
  have o12 := bel o1 o2 o1.size
  have hR4 := hR.addX (Y := fun k => k = w2.heap.size ∨ k = w2.heap.size + 1) o12 (fun k hk => .inr (.inr (by omega))) (fun k hk => by have := RX.lt; omega)
  have hrd5 := Rd.below hrd4 o2
  obtain ⟨w4, hw4⟩ : ∃ w4, w3.alloc (.cells #[.int .u64 1, .int .u64 2, .slice (some ⟨w2.heap.size, 0, none⟩) 1 1] 34) = w4 := ⟨_, rfl⟩
  rw [hw4] at o2 RX o12 hR4 hrd5 ⊢
  have e0 : R0.l.length = 3 ∧ R0.many = 3 ∧ R0.e = 0 ∧ R0.tab = [] ∧ ∀ i, (R0.seg i).l.length ≤ 1 := by
    rw [hR0]
    refine ⟨by simp, rfl, rfl, rfl, fun i => ?_⟩
    by_cases hi : i < 3
    · rw [seg_fresh hi]; exact Nat.zero_le _
    · unfold Rp.seg
      rw [List.getD_eq_getElem?_getD, List.getElem?_eq_none (by simp; omega)]
      exact Nat.zero_le _
  clear hs3
  have had := rpad_go hR4 (by rw [e0.1, e0.2.1]) 1 2 (by decide) (by decide) (some ⟨w2.heap.size, 0, none⟩) 1 1 [97] hrd5 e0.2.2.1 (by rw [hw0]; simp) (by have := e0.2.2.2.2 R0.own; omega) (by rw [e0.2.2.2.1]; simp) (fun b => by have := app_w D0 (R0.seg R0.own) b; rw [hw0] at this; simp at this; omega)
  rw [ha1] at had
  have HAD := Go.Lib.hid had
  clear had
  go_at_call 14
  refine HAD.out.mono ?_
  rintro e w5 ⟨rfl, hR5, K5⟩
  replace hR5 : HasRp (fun k => k = w2.heap.size ∨ k = w2.heap.size + 1) w w5 r p D1 R1 := hR5
  have hrd6 := K5.rdB hrd5 (fun b o e _ hn => hn (by cases e; exact .inl rfl))
  have RX5 := RX.keep K5 (fun hn => hn (.inr rfl))
  have m0 := RX5.cell 0 _ rfl
  have m1 := RX5.cell 1 _ rfl
  have m2 := RX5.cell 2 _ rfl
  have had2 := rpad_go hR5 (by rw [hR1l, hR1m]) 1 2 (by decide) (by decide) (some ⟨w2.heap.size, 0, none⟩) 1 1 [97] hrd6 hR1e (by rw [hw1]; simp) (by have := (hb1 R1.own).1; omega) (by omega) (fun b => by have := app_w D1 (R1.seg R1.own) b; rw [hw1] at this; simp at this; omega)
  rw [ha2] at had2
  have HAD2 := Go.Lib.hid had2
  clear had2 K5 hrd5 RX HAD hR4
  simp only
  go_wp2_with fail
  clear m0 m1 m2
  go_at_call 14
  refine HAD2.out.mono ?_
  rintro e w6 ⟨rfl, hR6, K6⟩
  replace hR6 : HasRp (fun k => k = w2.heap.size ∨ k = w2.heap.size + 1) w w6 r p D1 R1 := hR6
  have hrd7 := K6.rdB hrd6 (fun b o e _ hn => hn (by cases e; exact .inl rfl))
  have RX6 := RX5.keep K6 (fun hn => hn (.inr rfl))
  have m0 := RX6.cell 0 _ rfl
  have m1 := RX6.cell 1 _ rfl
  have m2 := RX6.cell 2 _ rfl
  have hso := rpst_any hR6 (by rw [hR1l, hR1m]) 0 0 1 2 (by decide) (by decide) (some ⟨w2.heap.size, 0, none⟩) 1 1 [97] hrd7 (by rw [hw1]; simp) (fun i => by have := (hb1 i).1; omega) (fun i b hb => by have := (hb1 i).2 b hb; omega) (fun i b => by have := app_w D1 (R1.seg i) b; rw [hw1] at this; simp at this; omega)
  rw [hst] at hso
  have HSO := Go.Lib.hid hso
  clear hso K6 hrd6 RX5 HAD2 hR5
  simp only
  go_wp2_with fail
  clear m0 m1 m2
  go_at_call 11
  refine HSO.out.mono ?_
  rintro e w7 ⟨rfl, hR7, K7⟩
  replace hR7 : HasRp (fun k => k = w2.heap.size ∨ k = w2.heap.size + 1) w w7 r p D2 R2 := hR7
  have hrd8 := K7.rdB hrd7 (fun b o e _ hn => hn (by cases e; exact .inl rfl))
  have RX7 := RX6.keep K7 (fun hn => hn (.inr rfl))
  have hcr := rpcrash_any hR7 none 0 0 [] NB.Rd.nil_mk (fun k o e => by cases e) (by rw [hw2]; simp)
  have HCR := Go.Lib.hid hcr
  clear hcr K7 hrd7 RX6 HSO hR6
  simp only
  go_wp2_with fail
  go_at_call 17
  refine HCR.out.mono ?_
  rintro e w8 ⟨rfl, hR8, K8⟩
  have hrd9 := K8.rdB hrd8 (fun b o e _ hn => hn (by cases e; exact .inl rfl))
  have RX8 := RX7.keep K8 (fun hn => hn (.inr rfl))
  obtain ⟨t, q, F, G, Ft, h8⟩ := hR8
  have hcl : (D2.crash []).l.length = 30 := by
    have h := (crash_runs hw2).1
    rw [h]; exact hl2
  have hop2 := rpop_any h8.ddh 0 10 3 1 (by omega) (by omega) (by show 0 ≤ 900000; omega) (by omega)
  rw [show ((0 : Nat) : Int) = 0 from rfl, hop] at hop2
  have HOP2 := Go.Lib.hid hop2
  have hbx := h8.box
  clear hop2 K8 hrd8 RX7 HCR hR7
  go_wp2_with fail
  go_at_call 10
  refine HOP2.out.mono ?_
  rintro e w9 ⟨hh, K9⟩
  obtain ⟨_, s, rfl, hR9⟩ := hh.resolve_left (fun h => h.1 rfl)
  have hrd10 := K9.rdB hrd9 (fun b o e _ hn => hn (by cases e; exact .inr (.inl (.inl rfl))))
  have RX9 := RX8.keep K9 (fun hn => hn (.inr (.inl (.inr rfl))))
  have bx9 := hbx.keep K9 (fun hn => hn (.inl rfl))
  have hrr := rprd_any hR9 1 0 (fun i hi => .inl (by rw [hR3l]; rw [hR3m] at hi; exact hi)) (fun i b hb => by have := (hb3 i).2 b hb; omega)
  rw [hrd] at hrr
  have HRR := Go.Lib.hid hrr
  clear hrr K9 hrd9 RX8 HOP2 hbx h8
  go_wp2_with fail
  go_at_call 13
  refine HRR.out.mono ?_
  rintro e w10 ⟨a10, n10, c10, rfl, hr10, hb10⟩
  have hR10 := hR9.below hb10
  have bx10 := bx9.below hb10
  have RX10 := RX9.below hb10
  have hrd11 := Rd.below hrd10 hb10
  clear hR9 bx9 RX9 hrd10 hb10 HRR
  have hsz10 : 1 = n10 := NB.RdB.size hr10
  subst hsz10
  have hr10 : NB.RdB w10 a10 1 c10 [97] := hr10
  have ob := oneB w10 (.cells #[.int .u64 1, .int .u64 2, .slice a10 1 c10] 34)
  have RY : Rw (w10.alloc (.cells #[.int .u64 1, .int .u64 2, .slice a10 1 c10] 34)) w10.heap.size [.int .u64 1, .int .u64 2, .slice a10 1 c10] 34 := NB.rw_new w10 [.int .u64 1, .int .u64 2, .slice a10 1 c10] _ rfl
  have hR11 := hR10.below ob
  have bx11 := bx10.below ob
  have RX11 := RX10.below ob
  have hrd12 := Rd.below hrd11 ob
  have hr11 := Rd.below hr10 ob
  have hlens := rpln_any hR11 (by rw [hR3l, hR3m]) (fun i => by
    have h1 := congrArg (fun l => l.getD i 0) hsu
    have h2 : (R3.l.map (·.sure)).getD i 0 = (R3.seg i).sure := by unfold Rp.seg; simp only [List.getD_eq_getElem?_getD, List.getElem?_map]; cases R3.l[i]? <;> rfl
    rw [← h2, hsu]
    match i with
    | 0 => decide
    | 1 => decide
    | 2 => decide
    | k + 3 => exact Nat.zero_le _)
  rw [show suresM R3 = [1, 1, 0] from hsu] at hlens
  have HLENS := Go.Lib.hid hlens
  clear hlens hr10 hrd11 RX10 bx10 hR10
  simp only
  go_wp2_with fail
  generalize w10.alloc (.cells #[.int .u64 1, .int .u64 2, .slice a10 1 c10] 34) = w11 at *
  go_at_call 12
  refine HLENS.out.mono ?_
  rintro e w12 ⟨w11', hb11, m, hm1, hm2, hm3, hm4, a12, c12, rfl, ho12, hb12⟩
  obtain rfl : m = 2 := by
    have h1 : m < 3 := hm2.2 rfl
    have h2 : ¬ m ≤ 1 := fun h => absurd (hm3 1 h (by decide)) (by decide)
    omega
  have ho12' : w12.ownsRow w11'.heap.size 32 1 (.slice a12 2 c12) 2 ([1, 1].map NB.u64v) := ho12
  obtain ⟨a12', c12', e12, hl12, _⟩ := NB.rd_of_own ho12'
  cases e12
  have hb := bel hb11 hb12 hb11.size
  obtain ⟨b12, o12', rfl, hc12⟩ := Rd.pos hl12 (by decide)
  have q1 : w12.cell? ⟨b12, o12' + 1, none⟩ = some (.int .u64 1) := hc12 1 _ rfl
  have RY12 := RY.below hb
  have RX12 := RX11.below hb
  have bx12 := bx11.below hb
  have hR12 := hR11.below hb
  have y2 := RY12.cell 2 _ rfl
  have m0 := RX12.cell 0 _ rfl
  have m1 := RX12.cell 1 _ rfl
  have m2 := RX12.cell 2 _ rfl
  have hr12 : NB.RdB w12 a10 1 c10 [97] := Rd.below hr11 hb
  have hsto := rpst_box bx12 0 1 2 (some ⟨w2.heap.size, 0, none⟩) 1 1 hR2e (by rw [hR2o, hR2m]; decide)
  rw [hR2o] at hsto
  have HSTO := Go.Lib.hid hsto
  have B12 : Below w.heap.size w w12 := by obtain ⟨_, _, _, _, _, h⟩ := hR12; exact h.low
  clear hsto ho12 ho12' hl12 hc12 RY RY12 RX12 RX11 bx11 bx12 hR11 hR12 hr11 HLENS hm1 hm2 hm3 hm4
  go_wp2_with (first
    | (refine NB.wpList_conv_str rfl 22 9 (.tmp 102) rfl Try.underlying22 Try.underlying5 Try.underlying9 a10 1 c10 [97] rfl hr12 ?_)
    | (go_at_call 11; refine HSTO.out.mono ?_; rintro e w13 ⟨rfl, hb13⟩))
  go_ret
  exact ⟨rfl, bel B12 hb13 B12.size⟩
end Go.Proofs.Ytjfidhjnbcmhfaa
namespace Go.Proofs.Ytjfidhjnbcmhfaa
open Go.RowKit
open Go.NB.Crc
open Go.NB (Rd RdU Dk Kp Stp Off Dis val I64 Rw oneB dB rw_new B64 Ent dknown dat)

def rp0 (n M O : Nat) : Rp := ⟨M, O, (List.range M).map (sgF n), [], false, 0⟩
theorem rp0_l (n M O i : Nat) : ((rp0 n M O).seg i).l = [] := by
  by_cases hi : i < M
  · unfold rp0; rw [seg_fresh hi]; rfl
  · rw [seg_none (by unfold rp0; simp; omega)]; rfl
theorem rp0_used (n M O i : Nat) : ((rp0 n M O).seg i).used = 0 := by
  by_cases hi : i < M
  · unfold rp0; rw [seg_fresh hi]; rfl
  · rw [seg_none (by unfold rp0; simp; omega)]; rfl
section
variable {X : Nat → Prop} {w0 w : World} {r p : Nat} {D : Dk} {R : Rp} {m n : Nat}
theorem rq_open (m n M O : Nat) (h : Dd w0 w p (Dk.fresh m)) (h1 : 1 ≤ n) (hn : n ≤ 1000) (hM : 1 ≤ M ∧ M ≤ 4) (hO : O < M) (hm : M * n ≤ m) (hm2 : m ≤ 65536) :
    Calls Try.prog 10 #[.pointer (some ⟨p, 0, none⟩), .int .i64 0, .int .i64 (n : Int), .int .i64 (M : Int), .int .i64 (O : Int)] w fun e w' => ∃ r, e = .returned (.tuple #[.pointer (some ⟨r, 0, none⟩), .int .i64 0]) ∧ HasRp (fun _ => False) w0 w' r p (Dk.fresh m) (rp0 n M O) := by
  have h2 := rpop_any (dd_h h) 0 (n : Int) (M : Int) (O : Int) (by omega) (by omega) (by show 0 ≤ 900000; omega) (by simpa [Dk.fresh] using hm2)
  rw [show ((0 : Nat) : Int) = 0 from rfl, ropn_fresh h1 (by omega) hM hO hm] at h2
  refine h2.mono ?_
  rintro e w' ⟨hh, _⟩
  obtain ⟨_, r, rfl, hR⟩ := hh.resolve_left (fun h => h.1 rfl)
  exact ⟨r, rfl, hR⟩
theorem rq_calm {m n M O : Nat} (h1 : 1 ≤ n) (hn : n ≤ 1000) (hM : M ≤ 4) (hO : O < M) (hm : M * n ≤ m) : Calm m n (Dk.fresh m) (rp0 n M O) := calm_fresh h1 (by omega) hM hO hm
theorem rq_low (h : HasRp X w0 w r p D R) : Below w0.heap.size w0 w := by obtain ⟨_, _, _, _, _, h⟩ := h; exact h.low
theorem rq_add (h : HasRp X w0 w r p D R) (hc : Calm m n D R) (hn : n ≤ 1000) (ht : R.tab.length ≤ 1000) (c s : Nat) (h1 : B64 c) (h2 : B64 s) (a : Option Addr) (k z : Nat) (b : List UInt8) (hr : NB.RdB w a k z b) :
    Calls Try.prog 14 #[.pointer (some ⟨r, 0, none⟩), .agg #[.int .u64 (c : Int), .int .u64 (s : Int), .slice a k z]] w (AddR X w0 w r p (addM D R (c, s, b))) :=
  rpad_go h hc.full c s h1 h2 a k z b hr hc.e (calm_waits hc) (by have := hc.llen R.own; omega) (by omega) (fun b => by have := app_w D (R.seg R.own) b; rw [hc.waits] at this; simp at this; omega)
theorem rq_store (h : HasRp X w0 w r p D R) (hc : Calm m n D R) (hn : n ≤ 1000) (seg at_ : Int) (c s : Nat) (h1 : B64 c) (h2 : B64 s) (a : Option Addr) (k z : Nat) (b : List UInt8) (hr : NB.RdB w a k z b) :
    Calls Try.prog 11 #[.pointer (some ⟨r, 0, none⟩), .int .i64 seg, .int .i64 at_, .agg #[.int .u64 (c : Int), .int .u64 (s : Int), .slice a k z]] w (StoR X w0 w r p (storeM D R seg at_ (c, s, b))) :=
  rpst_any h hc.full seg at_ c s h1 h2 a k z b hr (calm_waits hc) (fun i => by have := hc.llen i; omega) (fun i b hb => by have := hc.big i b hb; omega) (fun i b => by have := app_w D (R.seg i) b; rw [hc.waits] at this; simp at this; omega)
theorem rq_read {D2 : Dk} (h : HasRp X w0 w r p D R) (hc : Calm m n D2 R) (seg at_ : Int) :
    Calls Try.prog 13 #[.pointer (some ⟨r, 0, none⟩), .int .i64 seg, .int .i64 at_] w (EntE w (rreadM R seg at_)) :=
  rprd_any h seg at_ (fun i hi => .inl (by rw [hc.full]; exact hi)) (fun i b hb => by have := hc.big i b hb; omega)
theorem rq_sures {D2 : Dk} (hc : Calm m n D2 R) : suresM R = (List.range R.many).map fun i => (R.seg i).l.length := calm_sures hc
theorem rq_lens {D2 : Dk} (h : HasRp X w0 w r p D R) (hc : Calm m n D2 R) (hn : n ≤ 1000) (k : Nat) (hk : k ≤ R.many) (hpos : 0 < k → (R.seg (k - 1)).l ≠ []) (hz : ∀ i, k ≤ i → i < R.many → (R.seg i).l = []) :
    Calls Try.prog 12 #[.pointer (some ⟨r, 0, none⟩)] w fun e w' => ∃ a c, e = .returned (.slice a k c) ∧ Below w.heap.size w w' ∧ (0 < k → ∃ b o, a = some ⟨b, o, none⟩ ∧ ∀ i, i < k → w'.cell? ⟨b, o + i, none⟩ = some (.int .u64 ((R.seg i).l.length : Int))) := by
  refine (rpln_any h hc.full (fun i => by have := hc.sure i; have := hc.llen i; omega)).mono ?_
  rintro e w' ⟨w1, hb1, m', hm1, hm2, hm3, hm4, hf⟩
  rw [rq_sures hc] at hm1 hm2 hm3 hm4 hf
  have hlen : ((List.range R.many).map fun i => (R.seg i).l.length).length = R.many := by simp
  have hget : ∀ i, i < R.many → ((List.range R.many).map fun i => (R.seg i).l.length).getD i 0 = (R.seg i).l.length := fun i hi => by
    rw [List.getD_eq_getElem?_getD, List.getElem?_map, List.getElem?_range hi]; rfl
  rw [hlen] at hm1 hm3
  have hmk : m' = k := by
    rcases Nat.lt_trichotomy m' k with hlt | heq | hgt
    · have h1 := hm3 (k - 1) (by omega) (by omega)
      rw [hget _ (by omega)] at h1
      exact absurd (List.eq_nil_of_length_eq_zero h1) (hpos (by omega))
    · exact heq
    · have h1 := hm4 (by omega)
      rw [hget _ (by omega), hz (m' - 1) (by omega) (by omega)] at h1
      exact absurd rfl h1
  subst hmk
  obtain ⟨a, c, rfl, ho, hb2⟩ := hf
  refine ⟨a, c, rfl, bel hb1 hb2 hb1.size, fun hp => ?_⟩
  obtain ⟨a', c', e', hl, _⟩ := NB.rd_of_own ho
  cases e'
  obtain ⟨b, o, rfl, hcell⟩ := Rd.pos hl (by simp [hp])
  refine ⟨b, o, rfl, fun i hi => hcell i _ ?_⟩
  rw [List.getElem?_map, List.getElem?_take, if_pos hi, List.getElem?_map, List.getElem?_range (by omega)]
  rfl
theorem HasRp.keepX {Y : Nat → Prop} {w' : World} (h : HasRp X w0 w r p D R) (hb : Below w.heap.size w w') (hY : ∀ k, Y k → X k ∨ w.heap.size ≤ k) (hlt : ∀ k, Y k → k < w'.heap.size) : HasRp Y w0 w' r p D R :=
  h.addX hb (fun k hk => (hY k hk).elim .inl (fun h => .inr (.inr h))) hlt
end
end Go.Proofs.Ytjfidhjnbcmhfaa
namespace Go.Proofs.Ytjfidhjnbcmhfaa
open Go.RowKit
open Go.NB.Crc
open Go.NB (Rd RdU Dk Kp Stp Off Dis val I64 Rw oneB dB rw_new B64 Ent dknown dat)

section
variable {X : Nat → Prop} {w0 w w' : World} {r p t : Nat} {q : Nat → Nat} {F : Nat → Nat → Prop} {G Ft : Nat → Prop} {D : Dk} {R : Rp}
theorem IsRp.keepX (h : IsRp X w0 w r p t q F G Ft D R) (K : Kp X w w') (hl : ∀ k, X k → w0.heap.size ≤ k) : IsRp X w0 w' r p t q F G Ft D R :=
  { box := h.box.keep K h.rx, len := h.len, many := h.many, own := h.own
    seg := fun i hi => by obtain ⟨base, h1, h2⟩ := h.seg i hi; exact ⟨base, h1, h2.keep K (fun k hf hx => (h.off k (.inr hx)).1 i hi hf)⟩
    dsk := by obtain ⟨base, h1, h2⟩ := h.dsk; exact ⟨base, h1, h2.keep K (fun k hf hx => (h.off k (.inr hx)).2.1 hf)⟩
    tab := by obtain ⟨base, h1, h2⟩ := h.tab; exact ⟨base, h1, h2.keep K (fun k hf hx => (h.off k (.inr hx)).2.2 hf)⟩
    fg := h.fg, ff := h.ff, ft := h.ft, gt := h.gt, off := h.off, rx := h.rx
    xlt := fun k hk => Nat.lt_of_lt_of_le (h.xlt k hk) K.size
    low := h.low.trans (K.belowB h.low.size hl), rlow := h.rlow }
theorem HasRp.own (h : HasRp X w0 w r p D R) (K : Kp X w w') (hl : ∀ k, X k → w0.heap.size ≤ k) : HasRp X w0 w' r p D R := by
  obtain ⟨t, q, F, G, Ft, h⟩ := h
  exact ⟨t, q, F, G, Ft, h.keepX K hl⟩
theorem HasRp.setX (h : HasRp X w0 w r p D R) (x : Addr) (hx : X x.block) (hl : ∀ k, X k → w0.heap.size ≤ k) (v : Value) : HasRp X w0 (w.setCell x v) r p D R :=
  h.own ((Kp.refl X w).setCell (.inl hx) v) hl
end
end Go.Proofs.Ytjfidhjnbcmhfaa
