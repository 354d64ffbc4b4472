/- Frames, walked: All, a loop over an iterator. -/
import Derived.Test.YtcipghogcehfnaaFrb
import Derived.Test.YtcipghogcehfnaaRng
namespace Go.Proofs.Ytcipghogcehfnaa
open Go.RowKit Go.Shelf
open Go.NB (Rd Kp Stp Off Dis Rr encU oneB dB Rw digs Lp Bk)
attribute [local go_sem] Oper.semAt_some

/-- A frame that was told: its kind, its slice, its bytes. -/
structure It where
  k : UInt8
  a : Option Addr
  n : Nat
  c : Nat
  b : List UInt8
def itV (x : It) : List Value := [.int .u8 (x.k.toNat : Int), .slice x.a x.n x.c]
def itsV (l : List It) : List Value := l.flatMap itV
def frOf (x : It) : Fr := (x.k, x.b)
theorem itsV_snoc (l : List It) (x : It) : itsV l ++ itV x = itsV (l ++ [x]) := by simp [itsV]
theorem itV_one (x : It) : ∀ u ∈ itV x, u.oneCell' = true := by
  intro u hu
  simp [itV] at hu
  rcases hu with rfl | rfl <;> rfl
theorem slTF : NB.SlT Try.prog 33 25 (.agg #[.int .u8 0, .slice none 0 0]) 2 32 :=
  ⟨Try.underlying33, info_parts (by kernel_rfl), rfl, by omega⟩

/-- The frames' bytes lie outside of what may turn. -/
def Its (F : Nat → Prop) (W : World) (l : List It) : Prop := ∀ x ∈ l, NB.RdB W x.a x.n x.c x.b ∧ ∀ b o, x.a = some ⟨b, o, none⟩ → x.b ≠ [] → ¬ F b
theorem Its.lt {F : Nat → Prop} {W : World} {l : List It} (h : Its F W l) (x : It) (hx : x ∈ l) (b o : Nat) (e : x.a = some ⟨b, o, none⟩) (hb : x.b ≠ []) : b < W.heap.size := (h x hx).1.lt b o e (by simpa using hb)
theorem Its.kp {F G K : Nat → Prop} {W W' : World} {l : List It} (h : Its F W l) (hk : Kp K W W') (hK : ∀ k, K k → F k) (hG : ∀ k, G k → F k ∨ W.heap.size ≤ k) : Its G W' l := fun x hx => by
  obtain ⟨h1, h2⟩ := h x hx
  refine ⟨hk.rdB h1 fun b o e hb hkb => h2 b o e hb (hK b hkb), fun b o e hb hg => ?_⟩
  rcases hG b hg with h3 | h3
  · exact h2 b o e hb h3
  · have := h.lt x hx b o e hb; omega

/-- What the loop has done: 'gO', 'gN': the boxes of what is told; 'base': where its own rows begin. -/
structure AllI (gO gN base : Nat) (W : World) (v : Value) (at_ : Nat) (l : List It) : Prop where
  o : Rw W gO [v] 33
  n : Rw W gN [.int .i64 (at_ : Int)] 3
  own : W.ownsRow base 25 2 v l.length (itsV l)
  rd : Its (fun k => k = gO ∨ k = gN ∨ v.ownBlock = some k) W l
theorem AllI.below {gO gN base : Nat} {W W' : World} {v : Value} {at_ : Nat} {l : List It} (h : AllI gO gN base W v at_ l) (hb : Below W.heap.size W W') : AllI gO gN base W' v at_ l :=
  { o := h.o.below hb, n := h.n.below hb, own := NB.own_keep h.own hb, rd := fun x hx => ⟨(h.rd x hx).1.below hb, (h.rd x hx).2⟩ }
theorem AllI.put {gO gN base : Nat} {W : World} {v : Value} {at_ : Nat} {l : List It} (h : AllI gO gN base W v at_ l) (r : Nat) (ob : Obj) (hr : ∀ xs t f, W.heap[r]? ≠ some (.cells xs t f)) : AllI gO gN base (W.putObj r ob) v at_ l := by
  have hk := NB.kp_put W r ob
  have hno : ∀ g, (∃ xs t f, W.heap[g]? = some (.cells xs t f)) → ¬ g = r := by rintro g ⟨xs, t, f, hg⟩ rfl; exact hr _ _ _ hg
  refine { o := h.o.keep hk (hno gO ⟨_, _, _, h.o⟩), n := h.n.keep hk (hno gN ⟨_, _, _, h.n⟩), own := hk.own h.own (fun k e => ?_), rd := fun x hx => ⟨hk.rdB (h.rd x hx).1 (fun b o e hb => ?_), (h.rd x hx).2⟩ }
  · rcases h.own.2 with ⟨hv, _⟩ | ⟨g, cap, cur, rfl, _, hg, _⟩
    · rw [hv] at e; cases e
    · cases e; exact hno g ⟨_, _, _, hg⟩
  · have hl : 0 < x.n := by
      have := NB.RdB.size (h.rd x hx).1
      cases hxb : x.b with
      | nil => exact absurd hxb hb
      | cons y t => rw [hxb] at this; simp at this; omega
    obtain ⟨b', o', e', hc⟩ := NB.RdB.at (h.rd x hx).1 hl
    rw [e] at e'
    cases e'
    have h0 := hc 0 hl
    refine hno b ?_
    unfold World.cell? at h0
    simp only at h0
    split at h0
    · rename_i xs t f hq; exact ⟨xs, t, f, hq⟩
    · cases h0

set_option maxHeartbeats 400000 in
theorem feach_any (w : World) (a : Option Addr) (n c : Nat) : Calls Try.prog 20 #[.slice a n c] w fun e w' => e = .returned (.func (.func 33) #[] #[.pointer (some ⟨w.heap.size, 0, none⟩)]) ∧ w' = w.alloc (.cells #[.slice a n c] 22) := by
  go_enter Try.func20, Try.ntmps20
  go_wp2
  go_ret
  exact ⟨rfl, rfl⟩

set_option maxHeartbeats 2000000 in
/-- The iterator: it tells all whole frames, whatever the rounds do, if they keep 'J'. -/
theorem each1_in (m : Nat) (hm : 1 ≤ m) (l0 Bn : Nat) (sa : Option Addr) (sn sc : Nat) (b : List UInt8) (hsn : sn ≤ 100000000) (J : List It → Nat → Nat → World → Prop)
    (hJc : ∀ l k s W, J l k s W → W.cell? ⟨Bn, 0, none⟩ = some (.slice sa sn sc) ∧ NB.RdB W sa sn sc b)
    (hJs : ∀ l k s W, J l k s W → J l k W.heap.size W) (hJb : ∀ l k s W W', J l k s W → Below W.heap.size W W' → J l k s W')
    (hY : ∀ l k s W (x : It) (k' : Nat), J l k s W → NB.RdB W x.a x.n x.c x.b → (∀ b o, x.a = some ⟨b, o, none⟩ → x.b ≠ [] → s ≤ b) → l.length < 100000000 → k' ≤ 100000000 →
      YieldAt Fence.wide (m - 1) Try.prog l0 #[.agg #[.int .u8 (x.k.toNat : Int), .slice x.a x.n x.c], .int .i64 (k' : Int)] W fun e W' => e = .returned (.bool true) ∧ J (l ++ [x]) k' W'.heap.size W')
    (W : World) (h0 : J [] 0 W.heap.size W) :
    CallsIn Fence.wide m Try.prog 33 #[.func (.yield l0) #[] #[], .pointer (some ⟨Bn, 0, none⟩)] W fun e W' => (∃ v, e = .returned v) ∧ ∃ l k, J l k W'.heap.size W' ∧ l.map frOf = (fallM b).1 ∧ k = (fallM b).2 := by
  have hrd0 := (hJc _ _ _ _ h0).2
  have hsz := NB.RdB.size hrd0
  have hbd := Rd.bound hrd0
  have hle := hrd0.le
  have hmx := hrd0.max
  clear hrd0
  refine callsIn_of_wp Try.func33 rfl trivial ?_ rfl
  simp only [Try.ntmps33, List.size_toArray, List.length_cons, List.length_nil, Nat.reduceAdd, Nat.reduceSub, Array.replicate_succ, Array.replicate_zero, List.push_toArray, List.append_toArray, List.nil_append, List.cons_append]
  gi_wp2
  gi_loopw [3] (fun q wr => ∃ (l : List It) (k : Nat), q = .int .i64 (k : Int) ∧ k ≤ sn ∧ l.length ≤ k ∧ J l k wr.heap.size wr ∧ fallM b = (l.map frOf ++ (fallM (b.drop k)).1, k + (fallM (b.drop k)).2))
    (fun q _ => sn - (intOf q).toNat)
  case atStart => exact ⟨[], 0, rfl, Nat.zero_le _, Nat.le_refl _, h0, by simp⟩
  case round =>
    obtain ⟨l, k, rfl, hk, hlk, hJ, hf⟩ := hrel
    obtain ⟨hc, hr⟩ := hJc _ _ _ _ hJ
    have hrt := NB.rdB_tail hr k hk
    have HF := Go.Lib.hid hf; clear hf
    have hkc : k ≤ sc := by omega
    have ctg := fun h => fget_any wr (if sc = k then sa else sa.map fun x => x.add k) (sn - k) (sc - k) (b.drop k) h (by omega)
    have hdl : (b.drop k).length = sn - k := by rw [List.length_drop, hsz]
    have hpos := fget_pos (b.drop k)
    have hok := fun f n h => fall_ok (b := b.drop k) (f := f) (n := n) h
    have hno := fun h => fall_no (b := b.drop k) h
    obtain ⟨R, hR⟩ : ∃ R, R = fgetM (b.drop k) := ⟨_, rfl⟩
    rw [← hR] at ctg hpos hno
    have HR := Go.Lib.hid hR; clear hR
    obtain ⟨⟨rk, rb⟩, rn, re⟩ := R
    have CTG := Go.Lib.hid (ctg hrt); have HPOS := Go.Lib.hid hpos; have HNO := Go.Lib.hid hno; have HOK := Go.Lib.hid hok
    clear ctg hpos hno hok hrt hdl
    have hki : (k : Int) ≤ (sn : Int) := by omega
    by_cases hck : sc = k
    case' pos =>
      have ctg := CTG.out
      rw [if_pos hck, show sc - k = 0 by omega] at ctg
    case' neg =>
      have ctg := CTG.out
      rw [if_neg hck] at ctg
    all_goals
      have CT := Go.Lib.hid ctg; clear ctg CTG
      gi_wp2_with fail
      refine ⟨trivial, (callsIn_wide.2 CT.out).mono ?_⟩
      rintro e w1 ⟨a1, n1, c1, rfl, r1, hb1, hf1⟩
      simp only at r1 ⊢
      have hJ1 := hJb _ _ _ _ _ (hJb _ _ _ _ _ hJ hb1) (oneB w1 (.cells #[.int .u8 (rk.toNat : Int), .slice a1 n1 c1] 25))
      have r2 := Rd.below r1 (oneB w1 (.cells #[.int .u8 (rk.toNat : Int), .slice a1 n1 c1] 25))
      have row2 := NB.rw_new w1 [.int .u8 (rk.toNat : Int), .slice a1 n1 c1] 25 rfl
      simp only [List.toArray] at row2
      clear hJ hc hr CT
      by_cases hre : re = 0
      · obtain ⟨hp1, hp2⟩ := HPOS.out hre
        rw [List.length_drop, hsz] at hp2
        first
        | (exfalso; omega)
        | (have hre' : (re != 0) = false := by simp [hre]
           have hfall := HOK.out (rk, rb) rn (by rw [← HR.out, hre])
           obtain ⟨fn, tmps, assign, body, hy, hR⟩ := hY l k wr.heap.size _ ⟨rk, a1, n1, c1, rb⟩ (k + rn) hJ1 r2 (fun b o e _ => hf1 b o e) (by omega) (by omega)
           simp only at hy
           rw [show ((k + rn : Nat) : Int) = (k : Int) + (rn : Int) by omega] at hy
           have hf2 := HF.out
           rw [hfall, List.drop_drop] at hf2
           have HF2 := Go.Lib.hid hf2
           have hkb : (k : Int) + (rn : Int) ≤ 100000000 := by omega
           have HRR := Go.Lib.hid hR
           clear hfall hf2 HF HNO HOK HPOS HR hre hY hR
           have HYY := Go.Lib.hid hy
           clear hy
           gi_wp2_with fail
           rw [HYY.out, Oper.uponIn_round]
           refine ⟨fun _ => hm, HRR.out.mono ?_⟩
           rintro e W3 ⟨rfl, hJ3⟩
           gi_wp2_with fail
           go_roundw
           case rel => exact ⟨l ++ [⟨rk, a1, n1, c1, rb⟩], k + rn, by go_num, by omega, by simp; omega, hJ3, by rw [HF2.out]; simp [frOf, Nat.add_assoc]⟩
           case measure => simp [intOf]; omega)
      · have hre' : (re != 0) = true := by simp [hre]
        have hfall := HNO.out hre
        have hf2 := HF.out
        rw [hfall] at hf2
        have HF2 := Go.Lib.hid hf2
        clear hfall hf2 HF HNO HOK HPOS HR hre hY
        gi_wp2_with fail
        refine ⟨fun _ h => (by cases h), ?_⟩
        gi_wp2_with fail
        refine bodyPost_ret (results_none rfl _ _ _) rfl ?_
        exact ⟨⟨_, rfl⟩, l, k, hJs _ _ _ _ hJ1, by rw [HF2.out]; simp, by rw [HF2.out]; simp⟩
end Go.Proofs.Ytcipghogcehfnaa
