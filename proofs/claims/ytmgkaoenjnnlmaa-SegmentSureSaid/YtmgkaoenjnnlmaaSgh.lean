/- Bytes cut into pieces: slices.Chunk, slices.Collect. Walked. -/
import Derived.Test.YtmgkaoenjnnlmaaSgg
import Derived.Test.YtmgkaoenjnnlmaaRng
namespace Go.Proofs.Ytmgkaoenjnnlmaa
open Go.RowKit Go.Shelf
open Go.NB (Rd Dk Kp Stp Off Dis val oneB dB Rw MapI KeyI I64 Lp)
attribute [local go_sem] Oper.semAt_some

set_option maxHeartbeats 400000 in
theorem chunk_any (w : World) (a : Option Addr) (n c : Nat) : Calls Try.prog 39 #[.slice a n c, .int .i64 45] w fun e w' => e = .returned (.func (.func 64) #[] #[.pointer (some ⟨w.heap.size, 0, none⟩), .pointer (some ⟨w.heap.size + 1, 0, none⟩)]) ∧ w' = (w.alloc (.cells #[.slice a n c] 23)).alloc (.cells #[.int .i64 45] 3) := by
  go_enter Try.func39, Try.ntmps39
  go_wp2
  go_ret
  exact ⟨rfl, rfl⟩

set_option maxHeartbeats 2000000 in
/-- The iterator: it tells all pieces, whatever the rounds do, if they keep 'J'. -/
theorem chunk1_in (m : Nat) (hm : 1 ≤ m) (l0 bs bn : Nat) (sa : Option Addr) (sn sc : Nat) (b : List UInt8) (hsn : sn ≤ 1000000) (J : Nat → World → Prop)
    (hJc : ∀ k W, J k W → W.cell? ⟨bs, 0, none⟩ = some (.slice sa sn sc) ∧ W.cell? ⟨bn, 0, none⟩ = some (.int .i64 45) ∧ NB.RdB W sa sn sc b)
    (hJd0 : ∀ k W, J k W → J k W.drew)
    (hY : ∀ k W g o, J k W → 45 * k < sn → sa = some ⟨g, o, none⟩ → YieldAt Fence.wide (m - 1) Try.prog l0 #[.slice (some ⟨g, o + 45 * k, none⟩) (min 45 (sn - 45 * k)) (min 45 (sn - 45 * k))] W fun e W' => e = .returned (.bool true) ∧ J (k + 1) W')
    (W : World) (h0 : J 0 W) :
    CallsIn Fence.wide m Try.prog 64 #[.func (.yield l0) #[] #[], .pointer (some ⟨bs, 0, none⟩), .pointer (some ⟨bn, 0, none⟩)] W fun e W' => (∃ v, e = .returned v) ∧ ∃ k, J k W' ∧ sn ≤ 45 * k ∧ (k = 0 ∨ 45 * (k - 1) < sn) := by
  refine callsIn_of_wp Try.func64 rfl trivial ?_ rfl
  simp only [Try.ntmps64, List.size_toArray, List.length_cons, List.length_nil, Nat.reduceAdd, Nat.reduceSub, Array.replicate_succ, Array.replicate_zero, List.push_toArray, List.append_toArray, List.nil_append, List.cons_append]
  gi_wp2
  gi_loopw [4] (fun q wr => ∃ k : Nat, q = .int .i64 (45 * (k : Int)) ∧ J k wr ∧ (k = 0 ∨ 45 * (k - 1) < sn)) (fun q _ => sn + 45 - (intOf q).toNat)
  case atStart => exact ⟨0, rfl, h0, .inl rfl⟩
  case round =>
    obtain ⟨k, rfl, hJ, hk0⟩ := hrel
    obtain ⟨cs0, cn0, hrb0⟩ := hJc _ _ hJ
    have hle := hrb0.le
    have hbd := Rd.bound hrb0
    by_cases hlt : 45 * k < sn
    · have hki : 45 * (k : Int) < (sn : Int) := by omega
      have hki2 : 45 * (k : Int) ≤ (sn : Int) := by omega
      have hkc : 45 * (k : Int) ≤ (sc : Int) := by omega
      have hk00 : (0 : Int) ≤ 45 * (k : Int) := by omega
      have hkT : (45 * (k : Int)).toNat = 45 * k := by omega
      obtain ⟨g, o, rfl, _⟩ := NB.RdB.at hrb0 (by omega)
      have hE : min (45 : Int) ((sn - 45 * k : Nat) : Int) = ((min 45 (sn - 45 * k) : Nat) : Int) := by omega
      obtain ⟨E, hEe⟩ : ∃ E, min 45 (sn - 45 * k) = E := ⟨_, rfl⟩
      have hE1 : 1 ≤ E ∧ E ≤ 45 ∧ 45 * k + E ≤ sn := by omega
      have hy := hY k
      have HY := Go.Lib.hid hy
      clear hrb0 hY hy hE
      have hsc : ¬ sc = 45 * k := by omega
      have hwA : IntKind.i64.wrap (45 * (k : Int) + (E : Int)) = 45 * (k : Int) + (E : Int) := IntWalk.i64_in _ ⟨by omega, by omega⟩
      have hA0 : (0 : Int) ≤ 45 * (k : Int) + (E : Int) := by omega
      have hAc : 45 * (k : Int) + (E : Int) ≤ (sc : Int) := by omega
      have hAT : (45 * (k : Int) + (E : Int)).toNat = 45 * k + E := by omega
      have hAm : max (45 * (k : Int) + (E : Int)) 0 = 45 * (k : Int) + (E : Int) := by omega
      have hAk : 45 * (k : Int) ≤ 45 * (k : Int) + (E : Int) := by omega
      have hAne : ¬ 45 * k + E = 45 * k := by omega
      have hAs : 45 * k + E - 45 * k = E := by omega
      gi_wp2_with fail
      refine wpIn_wide.2 ?_
      refine NB.wp_region_m (by kernel_rfl) ?_
      have hJd := hJd0 k wr hJ
      generalize wr.drew = u at *
      obtain ⟨cs, cn, hrb⟩ := hJc _ _ hJd
      refine NB.any_r 0 rfl (by kernel_rfl) rfl _ (fun w' hw' => NB.run_op_load rfl rfl Try.underlying3 rfl (cn) hw') (fun K hK => ?_); go_simp; refine hK _ ?_; clear hK K
      refine NB.any_r 1 rfl (by kernel_rfl) rfl _ (fun w' hw' => NB.run_op_load rfl rfl Try.underlying23 rfl (cs) hw') (fun K hK => ?_); go_simp; refine hK _ ?_; clear hK K
      refine NB.any_p 2 rfl (by kernel_rfl) (fun K hK => ?_); go_simp; refine hK _ ?_; clear hK K
      refine NB.any_p 3 rfl (by kernel_rfl) (fun K hK => ?_); go_simp; refine hK _ ?_; clear hK K
      refine NB.any_p 4 rfl (by kernel_rfl) (fun K hK => ?_); go_simp; refine hK _ ?_; clear hK K
      refine NB.any_p 5 rfl (by kernel_rfl) (fun K hK => ?_); go_simp; refine hK _ ?_; clear hK K
      refine NB.any_p 6 rfl (by kernel_rfl) (fun K hK => ?_); go_simp; refine hK _ ?_; clear hK K
      refine NB.any_end (by kernel_rfl) ?_
      have hite : (if ((sn - 45 * k : Nat) : Int) < 45 then ((sn - 45 * k : Nat) : Int) else 45) = (E : Int) := by split <;> omega
      rw [hite]
      obtain ⟨fn, tmps, assign, body, hy, hR⟩ := HY.out u g o hJd hlt rfl
      rw [hEe] at hy
      have HYY := Go.Lib.hid hy
      have HRR := Go.Lib.hid hR
      have HJC := Go.Lib.hid hJc
      clear hy hR HY hite hJc
      gi_wp2_with fail
      rw [HYY.out, Oper.uponIn_round]
      refine ⟨fun _ => hm, HRR.out.mono ?_⟩
      rintro e W3 ⟨rfl, hJ3⟩
      obtain ⟨cs3, cn3, _⟩ := HJC.out _ _ hJ3
      have hw45 : IntKind.i64.wrap (45 * (k : Int) + 45) = 45 * (k : Int) + 45 := IntWalk.i64_in _ ⟨by omega, by omega⟩
      clear cs cn cs0 cn0
      gi_wp2_with fail
      go_roundw
      case rel => exact ⟨k + 1, by first | go_num | (congr 1; done) | (congr 1; omega), hJ3, .inr (by simpa using hlt)⟩
      case measure => simp [intOf]; omega
    · have hki : ¬ 45 * (k : Int) < (sn : Int) := by omega
      gi_wp2_with fail
      go_end0
      exact ⟨⟨_, rfl⟩, k, hJ, by omega, hk0⟩

/-- The pieces' slices. -/
def pcs (sa : Option Addr) (b : List UInt8) (k : Nat) : List Itm := (List.range k).map fun i => ⟨sa.map fun x => x.add (45 * i), (piece b i).length, piece b i⟩
theorem pcs_len (sa : Option Addr) (b : List UInt8) (k : Nat) : (pcs sa b k).length = k := by simp [pcs]
theorem pcs_snoc (sa : Option Addr) (b : List UInt8) (k : Nat) : pcs sa b (k + 1) = pcs sa b k ++ [⟨sa.map fun x => x.add (45 * k), (piece b k).length, piece b k⟩] := by simp [pcs, List.range_succ]
theorem pcs_rd {w : World} {sa : Option Addr} {sn sc : Nat} {b : List UInt8} (h : NB.RdB w sa sn sc b) (k : Nat) (hk : k = 0 ∨ 45 * (k - 1) < sn) : ∀ x ∈ pcs sa b k, NB.RdB w x.a x.b.length x.c x.b := by
  intro x hx
  obtain ⟨i, hi, rfl⟩ := List.mem_map.1 hx
  have hik := List.mem_range.1 hi
  have hsz := NB.RdB.size h
  have hpl : (piece b i).length = min 45 (sn - 45 * i) := by unfold piece; rw [List.length_take, List.length_drop, hsz]
  have h1 := NB.rdB_tail (rdB_front h (45 * i + (piece b i).length) (by omega)) (45 * i) (by omega)
  rw [if_neg (by omega), show 45 * i + (piece b i).length - 45 * i = (piece b i).length by omega, List.drop_take, show 45 * i + (piece b i).length - 45 * i = (piece b i).length by omega] at h1
  have e : (b.drop (45 * i)).take (piece b i).length = piece b i := by
    unfold piece
    rw [List.length_take, List.take_eq_take_iff]
    omega
  rw [e] at h1
  exact h1

structure SeqJ {w1 : World} {fn : FuncId} {a : Act} {ps : Array Tmp} {assign body : Code} (L : Lp w1 fn a ps assign body) (w : World) (sa : Option Addr) (b : List UInt8) (k : Nat) (W : World) : Prop where
  bk : NB.Bk L .ready W
  bel : Below w.heap.size w W
  v : ∃ v, Rw W w.heap.size [v] 22 ∧ W.ownsRow (w.heap.size + 3) 23 1 v k (itV (pcs sa b k))
theorem SeqJ.below {w1 : World} {fn : FuncId} {a : Act} {ps : Array Tmp} {assign body : Code} {L : Lp w1 fn a ps assign body} {w : World} {sa : Option Addr} {b : List UInt8} {k : Nat} {W W' : World} (h : SeqJ L w sa b k W) (hb : Below W.heap.size W W') : SeqJ L w sa b k W' := by
  obtain ⟨v, h1, h2⟩ := h.v
  exact ⟨h.bk.below hb, NB.bel h.bel hb h.bel.size, v, h1.below hb, NB.own_keep h2 hb⟩
def PcsE (w : World) (sa : Option Addr) (b : List UInt8) (sn : Nat) (e : Ending) (w' : World) : Prop :=
  ∃ v k, e = .returned v ∧ w'.ownsRow w.heap.size 23 1 v k (itV (pcs sa b k)) ∧ sn ≤ 45 * k ∧ (k = 0 ∨ 45 * (k - 1) < sn) ∧ Below w.heap.size w w'

set_option maxHeartbeats 2000000 in
theorem appseq_any (w : World) (bs bn : Nat) (sa : Option Addr) (sn sc : Nat) (b : List UInt8) (hr : NB.RdB w sa sn sc b) (hsn : sn ≤ 1000000) (hbs : w.cell? ⟨bs, 0, none⟩ = some (.slice sa sn sc)) (hbn : w.cell? ⟨bn, 0, none⟩ = some (.int .i64 45)) :
    Calls Try.prog 63 #[.slice none 0 0, .func (.func 64) #[] #[.pointer (some ⟨bs, 0, none⟩), .pointer (some ⟨bn, 0, none⟩)]] w (PcsE w sa b sn) := by
  refine (callsIn_wide (n := 6)).1 ?_
  refine callsIn_of_wp_marks Try.func63 rfl trivial ?_ rfl
  simp only [Try.ntmps63, List.size_toArray, List.length_cons, List.length_nil, Nat.reduceAdd, Nat.reduceSub, Array.replicate_succ, Array.replicate_zero, List.push_toArray, List.append_toArray, List.nil_append, List.cons_append]
  have rowO := NB.rw_new w [.slice none 0 0] 22 rfl
  have B1 := oneB w (.cells #[.slice none 0 0] 22)
  have hsz1 : (w.alloc (.cells #[.slice none 0 0] 22)).heap.size = w.heap.size + 1 := by simp
  simp only [List.toArray] at rowO
  have HR := Go.Lib.hid hr; clear hr
  gi_wp2_with fail
  generalize w.alloc (.cells #[.slice none 0 0] 22) = w1 at *
  have h33 := enters_of Try.func64 (by kernel_rfl) rfl
  have hltS := World.block_lt_of_cell? w _ hbs
  have hltN := World.block_lt_of_cell? w _ hbn
  have hsz := NB.RdB.size HR.out
  refine NB.range_told rfl (by omega) (gf := 64) (lb := #[.pointer (some ⟨bs, 0, none⟩), .pointer (some ⟨bn, 0, none⟩)]) rfl trivial h33
    (fun W' => ∃ k v, (∀ xs t f, W'.heap[w1.heap.size + 1]? ≠ some (.cells xs t f)) ∧ (∀ xs t f, W'.heap[w1.heap.size]? ≠ some (.cells xs t f)) ∧ Rw W' w.heap.size [v] 22 ∧ W'.ownsRow (w.heap.size + 3) 23 1 v k (itV (pcs sa b k)) ∧ sn ≤ 45 * k ∧ (k = 0 ∨ 45 * (k - 1) < sn) ∧ Below w.heap.size w W') ?hit ?hdone
  case hit =>
    intro fn hfn L W1 hB1 hb1 hs1
    have hb1' : Below w.heap.size w W1 := NB.bel B1 hb1 B1.size
    refine (chunk1_in _ (by omega) (w1.heap.size + 1) bs bn sa sn sc b hsn (fun k W => SeqJ L w sa b k W)
      (fun k W h => ⟨(Below.cell h.bel hltS).trans hbs, (Below.cell h.bel hltN).trans hbn, Rd.below HR.out h.bel⟩) (fun k W h => h.below (dB W)) ?_ W1
      ⟨hB1, hb1', _, rowO.below hb1, World.ownsRow_nil _ _ _ _⟩).mono ?_
    · intro k W g o hJ hlt hsa
      subst hsa
      refine (NB.yield_told L hfn rfl hJ.bk (R := fun W' => SeqJ L w (some ⟨g, o, none⟩) b (k + 1) W') ?_).mono (fun e W' h => ⟨h.1, h.2.2⟩)
      have hno : ∀ xs t f, W.heap[w1.heap.size + 1]? ≠ some (.cells xs t f) := fun xs t f e => by rw [hJ.bk.lp] at e; cases e
      obtain ⟨v, hv, hown⟩ := hJ.v
      have hB2 := hJ.bk.turn .busy
      have HBK := Go.Lib.hid hJ.bk
      have hkp := NB.kp_put W (w1.heap.size + 1) (.loop (L.at_ .busy none))
      have hv2 := hv.keep hkp (by omega)
      have bel2 := hJ.bel.trans (hkp.belowB hJ.bel.size (by rintro k rfl; omega))
      have hown2 := hkp.own hown (fun i e hi => by
        subst hi
        rcases hown.2 with ⟨hve, _⟩ | ⟨g', cap, cur, rfl, _, hg', _⟩
        · rw [hve] at e; cases e
        · cases e; exact hno _ _ _ hg')
      have hgo := hown2.lt
      clear hJ hv hown hkp hno
      gi_wp2_with fail
      refine ⟨HBK.out, ?_⟩
      rw [hsz1] at hB2 hv2 bel2 hown2 hgo
      generalize W.putObj (w.heap.size + 1 + 1) (.loop (L.at_ .busy none)) = W2 at *
      obtain ⟨c0, f0⟩ := NB.rw1 hv2
      have hkl : k ≤ 100000 := by omega
      gi_wp2_with (gi_at_builtin; refine NB.wpListIn_append_at rfl (.tmp 8) (.tmp 10) 22 rfl (w.heap.size + 3) slTL v k (itV (pcs (some ⟨g, o, none⟩) b k)) rfl (NB.own_keep hown2 (oneB _ _)) ⟨W2.heap.size, 0, none⟩ 1 1 [.slice (some ⟨g, o + 45 * k, none⟩) (min 45 (sn - 45 * k)) (min 45 (sn - 45 * k))] rfl (NB.rd_new W2 #[.slice (some ⟨g, o + 45 * k, none⟩) (min 45 (sn - 45 * k)) (min 45 (sn - 45 * k))] 23 1 rfl (by unfold maxLen; omega) rfl) (by omega) (by simp [Value.oneCell']) (by omega) (by unfold maxLen; omega) (by have := bel2.size; have := hB2.lt; simp; omega) ?_)
      intro v' w' ho hg hvb
      have hkA : Kp (fun k => v.ownBlock = some k) W2 w' := ((Kp.refl _ W2).alloc _).grown hg (fun k h => .inl h)
      have hn : ∀ g, g < w.heap.size + 3 → ¬ v.ownBlock = some g := fun g hg' e => by have := (hgo g e).1; omega
      have hO := hv2.keep hkA (hn _ (by omega))
      have hk5 : Kp (fun i => i = w.heap.size ∨ v.ownBlock = some i) W2 (w'.setCell ⟨w.heap.size, 0, none⟩ v') := (hkA.imp (fun i h => .inr h)).setCell (.inl (.inl rfl)) _
      have hk6 : Kp (fun i => i = w.heap.size) w' (w'.setCell ⟨w.heap.size, 0, none⟩ v') := (Kp.refl (fun i => i = w.heap.size) w').setCell (x := ⟨w.heap.size, 0, none⟩) (.inl rfl) _
      have hB5 := hB2.kp hk5 (by rintro (h | h); omega; exact hn _ (by omega) h) (by rintro (h | h); omega; exact hn _ (by omega) h)
      have bel5 : Below w.heap.size w (w'.setCell ⟨w.heap.size, 0, none⟩ v') := bel2.trans (hk5.belowB bel2.size (by rintro i (h | h); omega; have := (hgo i h).1; omega))
      have hO5 := hO.set 0 v'
      have hvg : ∀ i, v'.ownBlock = some i → w.heap.size + 3 ≤ i := fun i hi => by
        rcases hvb i hi with h | h
        · exact (hgo i h).1
        · have := bel2.size; have := hB2.lt; omega
      have ho5 := hk6.own ho (fun i e hi => by have := hvg i e; omega)
      have hpl : (piece b k).length = min 45 (sn - 45 * k) := by unfold piece; rw [List.length_take, List.length_drop, hsz]
      have hit : itV (pcs (some ⟨g, o, none⟩) b k) ++ [.slice (some ⟨g, o + 45 * k, none⟩) (min 45 (sn - 45 * k)) (min 45 (sn - 45 * k))] = itV (pcs (some ⟨g, o, none⟩) b (k + 1)) := by
        rw [pcs_snoc, ← hpl]
        unfold itV
        rw [List.map_append]
        simp only [List.map_cons, List.map_nil, Option.map_some, NB.addr_add]
      rw [hit] at ho5
      have hno5 : ∀ xs t f, (w'.setCell ⟨w.heap.size, 0, none⟩ v').heap[w1.heap.size + 1]? ≠ some (.cells xs t f) := fun xs t f e => by rw [hB5.lp] at e; cases e
      have hkq := NB.kp_put (w'.setCell ⟨w.heap.size, 0, none⟩ v') (w1.heap.size + 1) (.loop (L.at_ .ready none))
      have FIN : NB.Bk L .busy (w'.setCell ⟨w.heap.size, 0, none⟩ v') ∧ SeqJ L w (some ⟨g, o, none⟩) b (k + 1) ((w'.setCell ⟨w.heap.size, 0, none⟩ v').putObj (w1.heap.size + 1) (.loop (L.at_ .ready none))) :=
        ⟨hB5, hB5.turn _, bel5.trans (hkq.belowB bel5.size (by rintro i rfl; omega)), v', hO5.keep hkq (by omega), hkq.own ho5 (fun i e hi => by
          subst hi
          rcases ho5.2 with ⟨hve, _⟩ | ⟨g', cap, cur, rfl, _, hg', _⟩
          · rw [hve] at e; cases e
          · cases e; exact hno5 _ _ _ hg')⟩
      rw [hsz1] at FIN
      have HFIN := Go.Lib.hid FIN
      obtain ⟨co1, fo1⟩ := NB.rw1 hO
      obtain ⟨a', c', rfl, _⟩ := NB.rd_of_own ho
      clear FIN hk5 hk6 hB5 bel5 hO5 ho5 hno5 hkq hit hvg hn hkA ho hg hvb hO hB2 hv2 bel2 hown2 hgo HBK
      gi_wp2_with fail
      simpa using HFIN.out
    · rintro e W' ⟨he, k, hJ, hk1, hk2⟩
      obtain ⟨v, hv, ho⟩ := hJ.v
      exact ⟨he, hJ.bk, k, v, (fun xs t f e => by rw [hJ.bk.lp] at e; cases e), (fun xs t f e => by rw [hJ.bk.dfd] at e; cases e), hv, ho, hk1, hk2, hJ.bel⟩
  case hdone =>
    rintro W' o ⟨k, v, hno1, hno0, hv, ho, hk1, hk2, hbel⟩ hT hd
    have hkp := NB.kp_put W' (w1.heap.size + 1) o
    have own_put : ∀ {X : World} (r : Nat) (ob : Obj), (∀ xs t f, X.heap[r]? ≠ some (.cells xs t f)) → X.ownsRow (w.heap.size + 3) 23 1 v k (itV (pcs sa b k)) → (X.putObj r ob).ownsRow (w.heap.size + 3) 23 1 v k (itV (pcs sa b k)) := fun r ob hno ho => (NB.kp_put _ r ob).own ho (fun i e hi => by
      subst hi
      rcases ho.2 with ⟨hve, _⟩ | ⟨g', cap, cur, rfl, _, hg', _⟩
      · rw [hve] at e; cases e
      · cases e; exact hno _ _ _ hg')
    have hv1 := hv.keep hkp (by omega)
    have ho1 := own_put _ o hno1 ho
    have hbel1 : Below w.heap.size w (W'.putObj (w1.heap.size + 1) o) := hbel.trans (hkp.belowB hbel.size (by rintro k rfl; omega))
    have hd1 : (W'.putObj (w1.heap.size + 1) o).heap[w1.heap.size]? = some (.deferred (some [])) := (World.putObj_heap_other (by omega)).trans hd
    clear hno1 hno0 hv ho hbel hd hkp
    generalize W'.putObj (w1.heap.size + 1) o = W4 at *
    have hno0 : ∀ xs t f, W4.heap[w1.heap.size]? ≠ some (.cells xs t f) := fun xs t f e => by rw [hd1] at e; cases e
    have ho5 := own_put _ (.deferred none) hno0 ho1
    have hbel5 : Below w.heap.size w (W4.putObj (w1.heap.size) (.deferred none)) := hbel1.trans ((NB.kp_put W4 _ _).belowB hbel1.size (by rintro k rfl; omega))
    obtain ⟨c0, f0⟩ := NB.rw1 hv1
    have FIN : PcsE w sa b sn (.returned v) (W4.putObj (w1.heap.size) (.deferred none)) :=
      ⟨v, k, rfl, NB.own_mono ho5 (by omega), hk1, hk2, hbel5⟩
    rw [hsz1] at FIN hd1
    have HF := Go.Lib.hid FIN; have HD := Go.Lib.hid hd1
    clear FIN hd1 ho5 hv1 ho1 hbel5 hbel1 hno0 hk1 hk2 rowO B1 h33
    gi_wp2_with fail
    refine ⟨by simp, .inl ⟨_, _, rfl, run_takeDeferred HD.out, ?_⟩⟩
    refine ⟨_, results_tmp rfl _ _ _, ?_⟩
    exact HF.out
end Go.Proofs.Ytmgkaoenjnnlmaa
