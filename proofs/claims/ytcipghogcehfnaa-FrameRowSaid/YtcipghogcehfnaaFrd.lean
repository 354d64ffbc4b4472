/- Frames, walked: All. -/
import Derived.Test.YtcipghogcehfnaaFrc
namespace Go.Proofs.Ytcipghogcehfnaa
open Go.RowKit Go.Shelf
open Go.NB (Rd Kp Stp Off Dis Rr encU oneB dB Rw digs Lp Bk)
attribute [local go_sem] Oper.semAt_some

/-- All frames, in new memory. -/
def AllE (w : World) (r : List Fr × Nat) (e : Ending) (w' : World) : Prop :=
  ∃ a c l, e = .returned (.tuple #[.slice a (List.length l) c, .int .i64 (r.2 : Int)]) ∧ Rd 2 w' a l.length c (itsV l) ∧ (∀ x ∈ l, NB.RdB w' x.a x.n x.c x.b) ∧ l.map frOf = r.1 ∧ Below w.heap.size w w'

structure AllJ {w : World} {fn : FuncId} {a : Act} {ps : Array Tmp} {assign body : Code} (L : Lp w fn a ps assign body) (w0 : World) (sa : Option Addr) (sn sc : Nat) (b : List UInt8) (l : List It) (k s : Nat) (W : World) : Prop where
  bk : Bk L .ready W
  box : Rw W (w0.heap.size + 2) [.slice sa sn sc] 22
  bel : Below w0.heap.size w0 W
  off : Off (fun k => w0.heap.size ≤ k) W sa sn sc b
  s1 : s ≤ W.heap.size
  s0 : w0.heap.size + 5 ≤ s
  v : ∃ v, AllI w0.heap.size (w0.heap.size + 1) (w0.heap.size + 5) W v k l ∧ ∀ g, v.ownBlock = some g → g < s
section
variable {w : World} {fn : FuncId} {a : Act} {ps : Array Tmp} {assign body : Code} {L : Lp w fn a ps assign body} {w0 : World} {sa : Option Addr} {sn sc : Nat} {b : List UInt8}
theorem AllJ.below {l : List It} {k s : Nat} {W W' : World} (h : AllJ L w0 sa sn sc b l k s W) (hb : Below W.heap.size W W') : AllJ L w0 sa sn sc b l k s W' := by
  obtain ⟨v, hv, hl⟩ := h.v
  exact ⟨h.bk.below hb, h.box.below hb, NB.bel h.bel hb h.bel.size, h.off.below hb, Nat.le_trans h.s1 hb.size, h.s0, v, hv.below hb, hl⟩
theorem AllJ.top {l : List It} {k s : Nat} {W : World} (h : AllJ L w0 sa sn sc b l k s W) : AllJ L w0 sa sn sc b l k W.heap.size W := by
  obtain ⟨v, hv, hl⟩ := h.v
  exact ⟨h.bk, h.box, h.bel, h.off, Nat.le_refl _, Nat.le_trans h.s0 h.s1, v, hv, fun g hg => Nat.lt_of_lt_of_le (hl g hg) h.s1⟩
theorem rdB_put {W : World} {a : Option Addr} {n c : Nat} {b : List UInt8} (h : NB.RdB W a n c b) (r : Nat) (ob : Obj) (hr : ∀ xs t f, W.heap[r]? ≠ some (.cells xs t f)) : NB.RdB (W.putObj r ob) a n c b := by
  refine (NB.kp_put W r ob).rdB h fun b' o e hb => ?_
  have hl : 0 < n := by
    have := NB.RdB.size h
    cases hxb : b with
    | nil => exact absurd hxb hb
    | cons y t => rw [hxb] at this; simp at this; omega
  obtain ⟨b2, o2, e2, hc⟩ := NB.RdB.at h hl
  rw [e] at e2
  cases e2
  have h0 := hc 0 hl
  rintro rfl
  unfold World.cell? at h0
  simp only at h0
  first
  | cases h0
  | (split at h0
     · rename_i xs t f hq; exact hr xs t f hq
     · cases h0)
theorem AllI.base_le {gO gN base : Nat} {W : World} {v : Value} {at_ : Nat} {l : List It} (h : AllI gO gN base W v at_ l) (g : Nat) (e : v.ownBlock = some g) : base ≤ g ∧ g < W.heap.size := by
  obtain ⟨a, c, rfl, _, h3, h4⟩ := NB.rd_of_own h.own
  rw [h4] at e
  cases a with
  | none => cases e
  | some x =>
    rcases h.own.2 with ⟨hv, _⟩ | ⟨g', cap, cur, hv, _⟩
    · cases hv
    · cases hv
      cases e
      exact h3 _ _ rfl
/-- One round's work on memory. -/
theorem AllJ.step (hw : w.heap.size = w0.heap.size + 3) {l : List It} {k s : Nat} {W2 : World} {v v' : Value} (hB : Bk L .busy W2) (box : Rw W2 (w0.heap.size + 2) [.slice sa sn sc] 22) (bel : Below w0.heap.size w0 W2) (off : Off (fun k => w0.heap.size ≤ k) W2 sa sn sc b)
    (hv : AllI w0.heap.size (w0.heap.size + 1) (w0.heap.size + 5) W2 v k l) (hvl : ∀ g, v.ownBlock = some g → g < s) (hs0 : w0.heap.size + 5 ≤ s) (hs : s ≤ W2.heap.size) (x : It) (hx : NB.RdB W2 x.a x.n x.c x.b) (hxs : ∀ b o, x.a = some ⟨b, o, none⟩ → x.b ≠ [] → s ≤ b)
    (o : Obj) (w' : World) (hg : (W2.alloc o).grownBy w' v.ownBlock) (ho : w'.ownsRow (w0.heap.size + 5) 25 2 v' (l.length + 1) (itsV l ++ itV x)) (hvb : ∀ k, v'.ownBlock = some k → v.ownBlock = some k ∨ (W2.alloc o).heap.size ≤ k) (k' : Nat) (W5 : World)
    (h5 : W5 = (w'.setCell ⟨w0.heap.size, 0, none⟩ v').setCell ⟨w0.heap.size + 1, 0, none⟩ (.int .i64 (k' : Int))) :
    Bk L .busy W5 ∧ AllJ L w0 sa sn sc b (l ++ [x]) k' (W5.putObj (w.heap.size + 1) (.loop (L.at_ .ready none))).heap.size (W5.putObj (w.heap.size + 1) (.loop (L.at_ .ready none))) := by
  have hbo := hv.base_le
  have hkA : Kp (fun k => v.ownBlock = some k) W2 w' := ((Kp.refl _ W2).alloc o).grown hg (fun k h => .inl h)
  have hk : Kp (fun k => k = w0.heap.size ∨ k = w0.heap.size + 1 ∨ v.ownBlock = some k) W2 W5 := by
    rw [h5]
    exact ((hkA.imp (fun k h => .inr (.inr h))).setCell (.inl (.inl rfl)) _).setCell (.inl (.inr (.inl rfl))) _
  have hk2 : Kp (fun k => k = w0.heap.size ∨ k = w0.heap.size + 1) w' W5 := by
    rw [h5]
    exact ((Kp.refl _ w').setCell (.inl (.inl rfl)) _).setCell (.inl (.inr rfl)) _
  have hn : ∀ g, (g < w0.heap.size + 5) → ¬ v.ownBlock = some g := fun g hg' e => by have := (hbo g e).1; omega
  have hB5 : Bk L .busy W5 := hB.kp hk (by rintro (h | h | h); omega; omega; exact hn _ (by omega) h) (by rintro (h | h | h); omega; omega; exact hn _ (by omega) h)
  have hno : ∀ xs t f, W5.heap[w.heap.size + 1]? ≠ some (.cells xs t f) := fun xs t f e => by rw [hB5.lp] at e; cases e
  have hv5 : AllI w0.heap.size (w0.heap.size + 1) (w0.heap.size + 5) W5 v' k' (l ++ [x]) := by
    refine ⟨?_, ?_, ?_, ?_⟩
    · rw [h5]
      exact ((hv.o.keep hkA (hn _ (by omega))).set 0 v').other (by omega) 0 _
    · rw [h5]
      exact ((hv.n.keep hkA (hn _ (by omega))).other (by omega) 0 _).set 0 _
    · rw [← itsV_snoc, List.length_append, List.length_singleton]
      refine hk2.own ho fun g e => ?_
      have : w0.heap.size + 5 ≤ g := by
        rcases hvb g e with h | h
        · exact (hbo g h).1
        · simp at h; omega
      omega
    · intro y hy
      rcases List.mem_append.1 hy with hy | hy
      · refine Its.kp hv.rd hk (fun k h => h) (fun k h => ?_) y hy
        rcases h with h | h | h
        · exact .inl (.inl h)
        · exact .inl (.inr (.inl h))
        · rcases hvb k h with h | h
          · exact .inl (.inr (.inr h))
          · exact .inr (by simp at h; omega)
      · obtain rfl : y = x := by simpa using hy
        refine ⟨hk.rdB hx fun b o e hb => ?_, fun b o e hb => ?_⟩
        · have := hxs b o e hb
          rintro (h | h | h)
          · omega
          · omega
          · have := hvl b h; omega
        · have := hxs b o e hb
          have hlt := hx.lt b o e (by simpa using hb)
          rintro (h | h | h)
          · omega
          · omega
          · rcases hvb b h with h | h
            · have := hvl b h; omega
            · simp at h; omega
  have bel5 : Below w0.heap.size w0 W5 := bel.trans (hk.belowB bel.size (by rintro k (h | h | h); omega; omega; have := (hbo k h).1; omega))
  refine ⟨hB5, hB5.turn _, ?_, ?_, ?_, Nat.le_refl _, ?_, v', hv5.put _ _ hno, ?_⟩
  · exact (box.keep hk (by rintro (h | h | h); omega; omega; exact hn _ (by omega) h)).keep (NB.kp_put _ _ _) (by omega)
  · exact bel5.trans ((NB.kp_put _ _ _).belowB bel5.size (by rintro k rfl; omega))
  · exact ⟨rdB_put (hk.rdB off.rd (fun b o e hb h => off.nf b o e hb (by rcases h with h | h | h; omega; omega; have := (hbo b h).1; omega))) _ _ hno, off.nf⟩
  · have := bel5.size; have := hk.size; simp; omega
  · intro g e
    have := (hv5.base_le g e).2
    simpa using this
end
theorem it_rd (w : World) (k : UInt8) (a : Option Addr) (n c : Nat) (b : List UInt8) (t : TypeId) {g : Nat} (hg : g = w.heap.size) : Rd 2 (w.alloc (.cells #[.int .u8 (k.toNat : Int), .slice a n c] t)) (some ⟨g, 0, none⟩) 1 1 (itV ⟨k, a, n, c, b⟩) := NB.rd_new w #[.int .u8 (k.toNat : Int), .slice a n c] t 1 rfl (by unfold maxLen; omega) hg

set_option maxHeartbeats 2000000 in
theorem fall_any (w : World) (a : Option Addr) (n c : Nat) (b : List UInt8) (hr : NB.RdB w a n c b) (hl : n ≤ 100000000) :
    Calls Try.prog 12 #[.slice a n c] w (AllE w (fallM b)) := by
  refine (callsIn_wide (n := 6)).1 ?_
  refine callsIn_of_wp_marks Try.func12 rfl trivial ?_ rfl
  simp only [Try.ntmps12, List.size_toArray, List.length_cons, List.length_nil, Nat.reduceAdd, Nat.reduceSub, Array.replicate_succ, Array.replicate_zero, List.push_toArray, List.append_toArray, List.nil_append, List.cons_append]
  have rowO := NB.rw_new w [.slice none 0 0] 33 rfl
  have rowN := NB.rw_new (w.alloc (.cells #[.slice none 0 0] 33)) [.int .i64 0] 3 (g := w.heap.size + 1) (by simp)
  have B2 := NB.twoB w (.cells #[.slice none 0 0] 33) (.cells #[.int .i64 0] 3)
  have rowO2 := rowO.below (oneB _ (.cells #[.int .i64 0] 3))
  gi_wp2_with fail
  refine ⟨trivial, (callsIn_wide.2 (feach_any _ _ _ _)).mono ?_⟩
  rintro e w1 ⟨rfl, rfl⟩
  have rowB := NB.rw_new ((w.alloc (.cells #[.slice none 0 0] 33)).alloc (.cells #[.int .i64 0] 3)) [.slice a n c] 22 (g := w.heap.size + 2) (by simp)
  have ob := oneB ((w.alloc (.cells #[.slice none 0 0] 33)).alloc (.cells #[.int .i64 0] 3)) (.cells #[.slice a n c] 22)
  have rowO3 := rowO2.below ob
  have rowN3 := rowN.below ob
  have B3 := NB.bel B2 ob B2.size
  have hsz3 : (((w.alloc (.cells #[.slice none 0 0] 33)).alloc (.cells #[.int .i64 0] 3)).alloc (.cells #[.slice a n c] 22)).heap.size = w.heap.size + 3 := by simp
  simp only [List.toArray] at rowB rowO3 rowN3 ob B3
  clear rowO rowN rowO2 B2 ob
  have HR := Go.Lib.hid hr; clear hr
  gi_wp2_with fail
  generalize ((w.alloc (.cells #[.slice none 0 0] 33)).alloc (.cells #[.int .i64 0] 3)).alloc (.cells #[.slice a n c] 22) = w3 at *
  have h33 := enters_of Try.func33 (by kernel_rfl) rfl
  have offB : Off (fun k => w.heap.size ≤ k) w3 a n c b := Off.old HR.out B3 (fun _ h => h)
  have hsz := NB.RdB.size HR.out
  clear HR
  refine NB.range_told rfl (by omega) (gf := 33) (lb := #[.pointer (some ⟨w.heap.size + 2, 0, none⟩)]) rfl trivial h33
    (fun W' => ∃ l k v s, (∀ xs t f, W'.heap[w3.heap.size + 1]? ≠ some (.cells xs t f)) ∧ (∀ xs t f, W'.heap[w3.heap.size]? ≠ some (.cells xs t f)) ∧ l.map frOf = (fallM b).1 ∧ k = (fallM b).2 ∧ AllI w.heap.size (w.heap.size + 1) (w.heap.size + 5) W' v k l ∧ Below w.heap.size w W' ∧ w.heap.size + 5 ≤ s ∧ (∀ g, v.ownBlock = some g → g < s)) ?hit ?hdone
  case hit =>
    intro fn hfn L W1 hB1 hb1 hs1
    have hb1' : Below w.heap.size w W1 := NB.bel B3 hb1 B3.size
    refine (each1_in _ (by omega) (w3.heap.size + 1) (w.heap.size + 2) a n c b hl (fun l k s W => AllJ L w a n c b l k s W) (fun l k s W h => ⟨(NB.rw1 h.box).1, h.off.rd⟩) (fun l k s W h => h.top) (fun l k s W W' h hb => h.below hb) ?_ W1
      ⟨hB1, rowB.below hb1, hb1', offB.below hb1, Nat.le_refl _, by omega, _, ⟨rowO3.below hb1, rowN3.below hb1, World.ownsRow_nil _ _ _ _, fun x hx => nomatch hx⟩, fun g hg => nomatch hg⟩).mono ?_
    · intro l k s W x k' hJ hrx hfx hll hk'
      refine (NB.yield_told L hfn rfl hJ.bk (R := fun W' => AllJ L w a n c b (l ++ [x]) k' W'.heap.size W') ?_).mono (fun e W' h => ⟨h.1, h.2.2⟩)
      have hJ1 := hJ.below (oneB W (.cells #[.int .u8 (x.k.toNat : Int), .slice x.a x.n x.c] 25))
      have rx1 := Rd.below hrx (oneB W (.cells #[.int .u8 (x.k.toNat : Int), .slice x.a x.n x.c] 25))
      have rowF := NB.rw_new W [.int .u8 (x.k.toNat : Int), .slice x.a x.n x.c] 25 rfl
      have hltF : W.heap.size < (W.alloc (.cells #[.int .u8 (x.k.toNat : Int), .slice x.a x.n x.c] 25)).heap.size := by simp
      simp only [List.toArray] at rowF
      gi_wp2_with fail
      refine ⟨hJ1.bk, ?_⟩
      generalize W.alloc (.cells #[.int .u8 (x.k.toNat : Int), .slice x.a x.n x.c] 25) = W1 at *
      have hno : ∀ xs t f, W1.heap[w3.heap.size + 1]? ≠ some (.cells xs t f) := fun xs t f e => by rw [hJ1.bk.lp] at e; cases e
      obtain ⟨v, hv1, hvl⟩ := hJ1.v
      have hB2 := hJ1.bk.turn .busy
      have hkp := NB.kp_put W1 (w3.heap.size + 1) (.loop (L.at_ .busy none))
      have box2 := hJ1.box.keep hkp (by omega)
      have bel2 := hJ1.bel.trans (hkp.belowB hJ1.bel.size (by rintro k rfl; omega))
      have off2 : Off (fun k => w.heap.size ≤ k) (W1.putObj (w3.heap.size + 1) (.loop (L.at_ .busy none))) a n c b := ⟨rdB_put hJ1.off.rd _ _ hno, hJ1.off.nf⟩
      have hv2 := hv1.put _ (.loop (L.at_ .busy none)) hno
      have rx2 := rdB_put rx1 _ (.loop (L.at_ .busy none)) hno
      have rowF2 := rowF.keep hkp (fun h => by rw [h] at rowF; exact hno _ _ _ rowF)
      have hs2 : s ≤ (W1.putObj (w3.heap.size + 1) (.loop (L.at_ .busy none))).heap.size := by have := hJ1.s1; simpa using this
      have hs0 := hJ1.s0
      have hltF2 : W.heap.size < (W1.putObj (w3.heap.size + 1) (.loop (L.at_ .busy none))).heap.size := by simpa using hltF
      clear hJ hJ1 rx1 hv1 hno hkp rowF hrx hltF
      generalize W1.putObj (w3.heap.size + 1) (.loop (L.at_ .busy none)) = W2 at *
      obtain ⟨c0, f0⟩ := NB.rw1 hv2.o
      obtain ⟨c2, c3, _⟩ := NB.rw2 rowF2
      have hll : l.length ≤ 100000000 := by omega
      have hstep := fun o w' v' hg ho hvb W5 h5 => AllJ.step (k' := k') (v' := v') hsz3 hB2 box2 bel2 off2 hv2 hvl hs0 hs2 x rx2 hfx o w' hg ho hvb W5 h5
      have HST := Go.Lib.hid hstep
      have HV2 := Go.Lib.hid hv2
      have HB := Go.Lib.hid hv2.base_le
      clear hstep hvl hfx hB2 box2 bel2 off2 hv2 rx2 rowF2 rowO3 rowN3 rowB B3 offB h33 hsz
      gi_wp2_with (gi_at_builtin; refine NB.wpListIn_append_at rfl (.tmp 12) (.tmp 14) 33 rfl (w.heap.size + 5) slTF v l.length (itsV l) rfl (NB.own_keep HV2.out.own (oneB _ _)) ⟨W2.heap.size, 0, none⟩ 1 1 (itV x) rfl (it_rd _ _ _ _ _ x.b _ rfl) (by omega) (itV_one x) (by omega) (by unfold maxLen; omega) (by simp; omega) ?_)
      intro v' w' ho hg hvb
      have hkA : Kp (fun k => v.ownBlock = some k) W2 w' := ((Kp.refl _ W2).alloc _).grown hg (fun k h => .inl h)
      have hn : ∀ g, g < w.heap.size + 5 → ¬ v.ownBlock = some g := fun g hg' e => by have := (HB.out g e).1; omega
      have hO := HV2.out.o.keep hkA (hn _ (by omega))
      have hN := HV2.out.n.keep hkA (hn _ (by omega))
      have hst := HST.out _ w' v' hg ho (by simpa using hvb) _ rfl
      obtain ⟨a', c', rfl, _⟩ := NB.rd_of_own ho
      have hN2 := hN.other (g' := w.heap.size) (by omega) 0 (.slice a' (l.length + 1) c')
      obtain ⟨_, fo1⟩ := NB.rw1 hO
      obtain ⟨_, fn1⟩ := NB.rw1 hN2
      have HS := Go.Lib.hid hst
      clear hkA hn hO hN hN2 hst ho hg hvb HST HV2 HB c0 f0 c2 c3
      gi_wp2_with fail
      simpa [hsz3] using HS.out
    · rintro e W' ⟨he, l, k, hJ, hl1, hk⟩
      obtain ⟨v, hv, hvl⟩ := hJ.v
      exact ⟨he, hJ.bk, l, k, v, _, (fun xs t f e => by rw [hJ.bk.lp] at e; cases e), (fun xs t f e => by rw [hJ.bk.dfd] at e; cases e), hl1, hk, hv, hJ.bel, hJ.s0, hvl⟩
  case hdone =>
    rintro W' o ⟨l, k, v, s, hno1, hno0, hl1, hk, hv, hbel, hs0, hvl⟩ hT hd
    have hv1 := hv.put (w3.heap.size + 1) o hno1
    have hbel1 : Below w.heap.size w (W'.putObj (w3.heap.size + 1) o) := hbel.trans ((NB.kp_put W' _ o).belowB hbel.size (by rintro k rfl; omega))
    have hd1 : (W'.putObj (w3.heap.size + 1) o).heap[w3.heap.size]? = some (.deferred (some [])) := (World.putObj_heap_other (by omega)).trans hd
    clear hno1 hno0 hv hbel hd
    generalize W'.putObj (w3.heap.size + 1) o = W4 at *
    have hno0 : ∀ xs t f, W4.heap[w3.heap.size]? ≠ some (.cells xs t f) := fun xs t f e => by rw [hd1] at e; cases e
    have hv5 := (hv1.below (NB.dB W4)).put (w3.heap.size) (.deferred none) hno0
    have hbel5 : Below w.heap.size w (W4.drew.putObj (w3.heap.size) (.deferred none)) := hbel1.drew.trans ((NB.kp_put W4.drew _ _).belowB hbel1.size (by rintro k rfl; omega))
    have hd1 : W4.drew.heap[w3.heap.size]? = some (.deferred (some [])) := hd1
    obtain ⟨a', c', rfl, hrd, hblk, _⟩ := NB.rd_of_own hv5.own
    obtain ⟨c0, f0⟩ := NB.rw1 hv1.o
    obtain ⟨c1, f1⟩ := NB.rw1 hv1.n
    have FIN : AllE w (fallM b) (.returned (.tuple #[.slice a' l.length c', .int .i64 (k : Int)])) (W4.drew.putObj (w3.heap.size) (.deferred none)) :=
      ⟨a', c', l, by rw [hk], hrd, fun x hx => (hv5.rd x hx).1, hl1, hbel5⟩
    have HF := Go.Lib.hid FIN; have HD := Go.Lib.hid hd1
    clear FIN hd1 hv5 hv1 hbel5 hbel1 hrd hblk hno0 hl1 hk hvl rowO3 rowN3 rowB B3 offB h33
    gi_wp2_with fail
    refine wpIn_wide.2 ?_
    go_region
    all_goals gi_wp2
    all_goals refine ⟨by simp, .inl ⟨_, _, rfl, run_takeDeferred HD.out, ?_⟩⟩
    all_goals (refine ⟨_, results_tmp2 rfl _ _ _, ?_⟩; exact HF.out)
end Go.Proofs.Ytcipghogcehfnaa
