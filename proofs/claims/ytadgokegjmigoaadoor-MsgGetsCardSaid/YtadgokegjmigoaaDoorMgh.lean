/- A message's row of numbers is read: walked. -/
import Derived.Test.YtadgokegjmigoaaDoorMgg
import Derived.Test.YtadgokegjmigoaaDoorTrw
namespace Go.Proofs.YtadgokegjmigoaaDoor
open Go.RowKit Go.Shelf
open Go.NB (Rd Kp Stp Off Dis oneB dB Rw RdU Lp Rr encU encB u64v both rep)

theorem slTU : NB.SlT Tryd.prog 30 29 (.int .u64 0) 1 8 :=
  ⟨Tryd.underlying30, info_parts (by kernel_rfl), rfl, by omega⟩
theorem u64_one (xs : List Nat) : ∀ u ∈ xs.map u64v, u.oneCell' = true := by
  intro u hu
  obtain ⟨x, _, rfl⟩ := List.mem_map.1 hu
  rfl
theorem u64_rd (w : World) (x : Nat) (t : TypeId) {g : Nat} (hg : g = w.heap.size) : Rd 1 (w.alloc (.cells #[.int .u64 (x : Int)] t)) (some ⟨g, 0, none⟩) 1 1 ([x].map u64v) := NB.rd_new w #[.int .u64 (x : Int)] t 1 rfl (by unfold maxLen; omega) hg

/-- While the row is read. -/
structure VI (w : World) (base p bm : Nat) (F0 F : Nat → Prop) (m : Mm) (r : Rr) (a : Option Addr) (c : Nat) (xs : List Nat) (W : World) : Prop where
  rd : HasR W base p F r
  row : Rw W bm (msgV { m with vec := xs } a c none 0) 32
  own : W.ownsRow w.heap.size 29 1 (.slice a xs.length c) xs.length (xs.map u64v)
  d1 : ¬ F bm
  d2 : ∀ j, (Value.slice a xs.length c).ownBlock = some j → ¬ F j ∧ j ≠ bm
  stp : Stp (fun k => F0 k ∨ k = bm) (fun k => F k ∨ k = bm) w W
  lt : ∀ x ∈ xs, x < 18446744073709551616
section
variable {w W W' : World} {base p bm : Nat} {F0 F F' : Nat → Prop} {m : Mm} {r r' : Rr} {a a' : Option Addr} {c c' : Nat} {xs : List Nat}
theorem VI.below (h : VI w base p bm F0 F m r a c xs W) (hb : Below W.heap.size W W') : VI w base p bm F0 F m r a c xs W' :=
  ⟨h.rd.below hb, h.row.below hb, NB.own_keep h.own hb, h.d1, h.d2, h.stp.below hb h.stp.size, h.lt⟩
theorem VI.num (h : VI w base p bm F0 F m r a c xs W) (hr : HasR W' base p F' r') (hS : Stp F F' W W') : VI w base p bm F0 F' m r' a c xs W' where
  rd := hr
  row := h.row.keep hS.kp h.d1
  own := hS.kp.own h.own fun k e => (h.d2 k e).1
  d1 := fun hf => (hS.sub bm hf).elim h.d1 (fun h1 => by have := h.row.lt; omega)
  d2 := fun j e => ⟨fun hf => (hS.sub j hf).elim (h.d2 j e).1 (fun h1 => by have := (h.own.lt j e).2; omega), (h.d2 j e).2⟩
  stp := h.stp.trans (stp_bm hS)
  lt := h.lt
theorem VI.app (h : VI w base p bm F0 F m r a c xs W) {y : Nat} (hy : y < 18446744073709551616) (hg : W.grownBy W' (Value.slice a xs.length c).ownBlock) (ho : W'.ownsRow w.heap.size 29 1 (.slice a' (xs ++ [y]).length c') (xs ++ [y]).length ((xs ++ [y]).map u64v))
    (hv : ∀ k, (Value.slice a' (xs ++ [y]).length c').ownBlock = some k → (Value.slice a xs.length c).ownBlock = some k ∨ W.heap.size ≤ k) : VI w base p bm F0 F m r a' c' (xs ++ [y]) (W'.setCell ⟨bm, 9, none⟩ (.slice a' (xs ++ [y]).length c')) := by
  have hk : Kp (fun k => (Value.slice a xs.length c).ownBlock = some k) W W' := (Kp.refl _ W).grown hg fun k e => .inl e
  have hrow := h.row.keep hk (fun e => (h.d2 bm e).2 rfl)
  have hk2 : Kp (fun k => k = bm) W' (W'.setCell ⟨bm, 9, none⟩ (.slice a' (xs ++ [y]).length c')) := (Kp.refl (fun k => k = bm) W').setCell (x := ⟨bm, 9, none⟩) (.inl rfl) _
  have hnb : ∀ j, (Value.slice a' (xs ++ [y]).length c').ownBlock = some j → ¬ F j ∧ j ≠ bm := fun j e => by
    rcases hv j e with h1 | h1
    · exact h.d2 j h1
    · exact ⟨fun hf => by have := (h.rd.foot j hf).2; omega, by have := h.row.lt; omega⟩
  refine ⟨(h.rd.keep hk (fun k hf e => (h.d2 k e).1 hf)).keep hk2 (fun k hf e => h.d1 (e ▸ hf)), hrow.set 9 _, hk2.own ho (fun k e hf => (hnb k e).2 hf), h.d1, hnb, ?_, fun x hx => ?_⟩
  · refine ⟨h.stp.kp.trans (G := fun k => (Value.slice a xs.length c).ownBlock = some k ∨ k = bm) ((hk.imp fun k e => .inl e).trans (hk2.imp fun k e => .inr e) (fun k e => .inl e)) ?_, h.stp.sub⟩
    rintro i (e | e)
    · exact .inr (h.own.lt i e).1
    · exact .inl (.inr e)
  · rcases List.mem_append.1 hx with hx | hx
    · exact h.lt x hx
    · rw [List.mem_singleton.1 hx]; exact hy
end

set_option maxRecDepth 100000 in
set_option maxHeartbeats 8000000 in
theorem mreadv_any (w : World) (base p bm : Nat) (F : Nat → Prop) (m : Mm) (r : Rr) (h : HasR w base p F r) (hq : Rw w bm (msgV m none 0 none 0) 32) (hF : ¬ F bm) (hv : m.vec = []) (hb : m.body = []) (x : Int) (hx : x = ((2 ^ 8 : Nat) : Int)) :
    Calls Tryd.prog 26 #[.pointer (some ⟨bm, 0, none⟩), .pointer (some ⟨p, 0, none⟩), .int .u64 x] w (ReadE w base p F bm 8 m r) := by
  have hbw := hq.lt
  unfold ReadE
  subst hx
  have hp : ((2 ^ 8 : Nat) : Int) = 256 := rfl
  rw [hp]
  clear hp
  have hq0 : Rw w bm (msgV { m with vec := [] } none 0 none 0) 32 := by rw [← hv]; exact hq
  have hz := uint_err_zero r
  have ctu := ruint_any w base p F r h
  have hrf : readF 8 m r = ((rep Rr.uint (Rr.upto 13 257 r).2 (Rr.upto 13 257 r).1).1, { m with vec := (rep Rr.uint (Rr.upto 13 257 r).2 (Rr.upto 13 257 r).1).2 }) := rfl
  rw [hrf]
  have hup : Rr.upto 13 257 r = if r.uint.1.e = 0 ∧ 257 ≤ r.uint.2 then (⟨r.uint.1.b, 13⟩, 0) else r.uint := rfl
  rw [hup]
  clear hup hrf
  obtain ⟨R', n, hrx⟩ : ∃ R' x, r.uint = (R', x) := ⟨_, _, rfl⟩
  rw [hrx] at ctu hz ⊢
  simp only at ctu hz ⊢
  have HU := Go.Lib.hid ctu
  clear ctu hrx hq
  by_cases hn : 257 ≤ n
  · have he0 : R'.e = 0 := by apply Classical.byContradiction; intro hne; have := hz hne; omega
    rw [if_pos ⟨he0, hn⟩]
    clear hz
    have hni : (256 : Int) < (n : Int) := by omega
    go_enter Tryd.func26, Tryd.ntmps26
    go_wp2_with fail
    go_at_call 51
    refine HU.out.mono ?_
    rintro e w1 ⟨rfl, F', hr1, hS1⟩
    go_wp2_with fail
    go_ret
    exact ⟨F', rfl, stp_bm hS1, fun h0 => absurd h0 (show ¬ (13 : Int) = 0 by decide)⟩
  rw [if_neg (by omega)]
  have hni : ¬ (256 : Int) < (n : Int) := by omega
  clear hz
  go_enter Tryd.func26, Tryd.ntmps26
  go_wp2_with fail
  go_at_call 51
  refine HU.out.mono ?_
  rintro e w1 ⟨rfl, F1, hr1, hS1⟩
  have J0 : VI w base p bm F F1 m R' none 0 [] w1 := ⟨hr1, hq0.keep hS1.kp hF, World.ownsRow_nil _ _ _ _, fun hf => (hS1.sub bm hf).elim hF (fun h1 => by omega), (fun j e => nomatch e), stp_bm hS1, (fun x hx => by cases hx)⟩
  clear HU hr1 hS1 hq0 h
  go_wp2_with fail
  go_loopw [73] (fun y wi => ∃ (i : Nat) (F' : Nat → Prop) (mi : Rr) (xs : List Nat) (aL : Option Addr) (cL : Nat), i ≤ n ∧ y = .int .u64 (i : Int) ∧ VI w base p bm F F' m mi aL cL xs wi ∧ (mi, xs) = rep Rr.uint i R' ∧ xs.length = i) (fun y _ => n - (intOf y).toNat)
  case atStart => exact ⟨0, F1, R', [], none, 0, by omega, rfl, J0, rfl, rfl⟩
  case round =>
    clear J0
    obtain ⟨i, F5, mi, xs, aL, cL, hi, rfl, J, hrp, hxi⟩ := hrel
    have HRP := Go.Lib.hid hrp
    have HXI := Go.Lib.hid hxi
    have hx4 : xs.length ≤ 256 := by omega
    clear hrp hxi
    by_cases hil : i < n
    case neg =>
      have hii : ¬ (i : Int) < (n : Int) := by omega
      obtain rfl : i = n := by omega
      have hrr := J.rd
      have hrow := J.row
      have hst := J.stp
      obtain ⟨a9, c9, e9, hrd9, hlo9, _⟩ := NB.rd_of_own J.own
      cases e9
      have hvr : RdU wr aL xs.length cL xs := ⟨hrd9, J.lt⟩
      have HD1 := Go.Lib.hid J.d1
      have HRR := Go.Lib.hid hrr
      have HROW := Go.Lib.hid hrow
      have HST := Go.Lib.hid hst
      have HVR := Go.Lib.hid hvr
      have HLO := Go.Lib.hid hlo9
      clear J hrr hrow hst hrd9 hvr hlo9
      go_wp2_with (go_at_call 54; refine (rerr_any _ base p F5 mi HRR.out).mono ?_; rintro e w' ⟨rfl, e2⟩; subst w')
      go_ret
      rw [← HRP.out]
      exact ⟨F5, rfl, HST.out, fun _ => ⟨HRR.out, HD1.out, aL, cL, none, 0, (fun h => absurd h (by decide)), HROW.out, ⟨HVR.out, by show NB.RdB wr none m.body.length 0 m.body; rw [hb]; exact NB.Rd.nil_mk⟩, (fun j o e => (HLO.out j o e).1), (fun _ _ e => nomatch e)⟩⟩
    have hii : (i : Int) < (n : Int) := by omega
    go_wp2_with fail
    have cu := fun v FF hh => ruint_any v base p FF mi hh
    have hul := Rr.uint_lt mi
    have hsn : rep Rr.uint (i + 1) R' = (mi.uint.1, xs ++ [mi.uint.2]) := by rw [NB.rep_snoc, ← HRP.out]
    generalize mi.uint = U at *
    obtain ⟨mu, y⟩ := U
    simp only at cu hul hsn
    have HU := Go.Lib.hid cu
    have HSN := Go.Lib.hid hsn
    have hwi : IntKind.u64.wrap ((i : Int) + 1) = (i : Int) + 1 := IntWalk.u64_in _ ⟨by omega, by omega⟩
    clear cu hsn
    refine NB.wp_region_t [6, 8, 11] (by kernel_rfl) ?_
    have J1 := J.below (dB wr)
    clear J
    generalize wr.drew = w1' at *
    have d1 := J1.row.cell 9 _ rfl
    refine NB.t_p 0 rfl (by kernel_rfl) (fun K hK => ?_); go_simp; refine hK _ ?_; clear hK K
    refine NB.t_p 1 rfl (by kernel_rfl) (fun K hK => ?_); go_simp; refine hK _ ?_; clear hK K
    refine NB.t_p 2 rfl (by kernel_rfl) (fun K hK => ?_); go_simp; refine hK _ ?_; clear hK K
    refine NB.t_p 3 rfl (by kernel_rfl) (fun K hK => ?_); go_simp; refine hK _ ?_; clear hK K
    refine NB.t_p 5 rfl (by kernel_rfl) (fun K hK => ?_); go_simp; refine hK _ ?_; clear hK K
    refine NB.t_rw 4 6 rfl rfl (by kernel_rfl) (by kernel_rfl) (by kernel_rfl) rfl rfl _ (NB.run_op_load rfl rfl Tryd.underlying30 rfl d1 (Below.refl _ w1')) ?_ (fun Q' hK => ?_)
    · refine NB.t_w 6 rfl (by kernel_rfl) (by kernel_rfl) rfl (fun Q' hK => ?_)
      go_wp2_with (go_at_call 51; refine (HU.out _ _ J1.rd).mono ?_; rintro e w2 ⟨rfl, F2, hC2, hS2⟩)
      have J2 := J1.num hC2 hS2
      clear J1 hC2 hS2 d1 HU
      refine NB.t_e 7 rfl (by kernel_rfl) (by kernel_rfl) (fun K hK => ?_); unfold NB.tmoves; go_simp; refine ⟨oneB _ _, hK _ _ ?_⟩; clear hK K
      have J3 := J2.below (oneB w2 (.cells #[.int .u64 (y : Int)] 29))
      have hsz2 : w.heap.size ≤ (w2.alloc (.cells #[.int .u64 (y : Int)] 29)).heap.size := J3.stp.size
      refine NB.t_w 8 rfl (by kernel_rfl) (by kernel_rfl) rfl (fun Q' hK => ?_)
      refine NB.wpList_append_at rfl (.tmp 79) (.tmp 82) 30 rfl w.heap.size slTU _ xs.length (xs.map u64v) rfl J3.own _ 1 1 ([y].map u64v) rfl (u64_rd w2 y _ rfl) (u64_one _) (by omega) (by unfold maxLen; omega) hsz2 ?_
      intro v6 w6 ho6 hg6 hv6
      refine hK _ _ ?_
      clear hK Q'
      have row6 := J3.row.keep ((Kp.refl (fun k => (Value.slice aL xs.length cL).ownBlock = some k) _).grown hg6 (fun k e => .inl e)) (fun e => (J3.d2 _ e).2 rfl)
      obtain ⟨a6, c6, rfl, _⟩ := NB.rd_of_own ho6
      have hl6 : xs.length + 1 = (xs ++ [y]).length := by simp
      rw [← List.map_append] at ho6
      have hcl6 : (Value.slice a6 (xs.length + 1) c6) = .slice a6 (xs ++ [y]).length c6 := by rw [hl6]
      have J6 := J3.app hul hg6 (by rw [← hl6]; exact ho6) (by rw [← hl6]; exact hv6)
      rw [← hl6] at J6
      have e9 := row6.cell 9 _ rfl
      have f9 := row6.free 9
      have HJ := Go.Lib.hid J6
      clear J2 J3 J6 ho6 hg6 hv6 row6 hsz2 hcl6 hl6
      refine NB.t_p 9 rfl (by kernel_rfl) (fun K hK => ?_); go_simp; refine hK _ ?_; clear hK K
      refine NB.t_p 10 rfl (by kernel_rfl) (fun K hK => ?_); go_simp; refine hK _ ?_; clear hK K
      refine NB.t_w 11 rfl (by kernel_rfl) (by kernel_rfl) rfl (fun Q' hK => ?_)
      go_wp2_with fail
      refine NB.t_end (by kernel_rfl) ?_
      go_wp2_with fail
      exact ⟨⟨i + 1, F2, mu, xs ++ [y], a6, c6, by omega, by simp, HJ.out, HSN.out.symm, by rw [List.length_append, HXI.out]; rfl⟩, by simp [intOf]; omega⟩
    · go_wp2_with (go_at_call 51; refine (HU.out _ _ J1.rd).mono ?_; rintro e w2 ⟨rfl, F2, hC2, hS2⟩)
      have J2 := J1.num hC2 hS2
      clear J1 hC2 hS2 d1 HU
      refine NB.t_r 4 [8, 9, 10, 11] rfl (by kernel_rfl) (by kernel_rfl) (by go_simp) _ (fun w' hw' => NB.run_op_load rfl rfl Tryd.underlying30 rfl (J2.row.cell 9 _ rfl) hw') (fun K hK => ?_); go_simp; refine hK _ ?_; clear hK K
      refine NB.t_e 7 rfl (by kernel_rfl) (by kernel_rfl) (fun K hK => ?_); unfold NB.tmoves; go_simp; refine ⟨oneB _ _, hK _ _ ?_⟩; clear hK K
      have J3 := J2.below (oneB w2 (.cells #[.int .u64 (y : Int)] 29))
      have hsz2 : w.heap.size ≤ (w2.alloc (.cells #[.int .u64 (y : Int)] 29)).heap.size := J3.stp.size
      refine NB.t_w 8 rfl (by kernel_rfl) (by kernel_rfl) rfl (fun Q' hK => ?_)
      refine NB.wpList_append_at rfl (.tmp 79) (.tmp 82) 30 rfl w.heap.size slTU _ xs.length (xs.map u64v) rfl J3.own _ 1 1 ([y].map u64v) rfl (u64_rd w2 y _ rfl) (u64_one _) (by omega) (by unfold maxLen; omega) hsz2 ?_
      intro v6 w6 ho6 hg6 hv6
      refine hK _ _ ?_
      clear hK Q'
      have row6 := J3.row.keep ((Kp.refl (fun k => (Value.slice aL xs.length cL).ownBlock = some k) _).grown hg6 (fun k e => .inl e)) (fun e => (J3.d2 _ e).2 rfl)
      obtain ⟨a6, c6, rfl, _⟩ := NB.rd_of_own ho6
      have hl6 : xs.length + 1 = (xs ++ [y]).length := by simp
      rw [← List.map_append] at ho6
      have hcl6 : (Value.slice a6 (xs.length + 1) c6) = .slice a6 (xs ++ [y]).length c6 := by rw [hl6]
      have J6 := J3.app hul hg6 (by rw [← hl6]; exact ho6) (by rw [← hl6]; exact hv6)
      rw [← hl6] at J6
      have e9 := row6.cell 9 _ rfl
      have f9 := row6.free 9
      have HJ := Go.Lib.hid J6
      clear J2 J3 J6 ho6 hg6 hv6 row6 hsz2 hcl6 hl6
      refine NB.t_p 9 rfl (by kernel_rfl) (fun K hK => ?_); go_simp; refine hK _ ?_; clear hK K
      refine NB.t_p 10 rfl (by kernel_rfl) (fun K hK => ?_); go_simp; refine hK _ ?_; clear hK K
      refine NB.t_w 11 rfl (by kernel_rfl) (by kernel_rfl) rfl (fun Q' hK => ?_)
      go_wp2_with fail
      refine NB.t_end (by kernel_rfl) ?_
      go_wp2_with fail
      exact ⟨⟨i + 1, F2, mu, xs ++ [y], a6, c6, by omega, by simp, HJ.out, HSN.out.symm, by rw [List.length_append, HXI.out]; rfl⟩, by simp [intOf]; omega⟩

theorem mreadF_any (w : World) (base p bm : Nat) (F : Nat → Prop) (m : Mm) (r : Rr) (h : HasR w base p F r) (hq : Rw w bm (msgV m none 0 none 0) 32) (hF : ¬ F bm) (hv : m.vec = []) (hb : m.body = []) (hlen : r.b.length ≤ 100000000000) (f : Nat) (hf : f < 10) (x : Int) (hx : x = ((2 ^ f : Nat) : Int)) :
    Calls Tryd.prog 26 #[.pointer (some ⟨bm, 0, none⟩), .pointer (some ⟨p, 0, none⟩), .int .u64 x] w (ReadE w base p F bm f m r) := by
  by_cases h8 : f = 8
  · subst h8; exact mreadv_any w base p bm F m r h hq hF hv hb x hx
  · exact mread_any w base p bm F m r h hq hF hv hb hlen f hf h8 x hx
end Go.Proofs.YtadgokegjmigoaaDoor
