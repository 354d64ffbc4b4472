/- A message's fields are read: walked. -/
import Derived.Test.YtadgokegjmigoaaDoorMgf
namespace Go.Proofs.YtadgokegjmigoaaDoor
open Go.RowKit Go.Shelf
open Go.NB (Rd Kp Stp Off Dis oneB dB Rw RdU Lp Rr encU encB)

theorem uint_err_zero (r : Rr) : r.uint.1.e ≠ 0 → r.uint.2 = 0 := by
  intro h
  by_cases he : r.e = 0
  · obtain ⟨b, e⟩ := r
    simp only at he
    subst he
    rcases Rr.uint_cases b with ⟨x, l, _, _, hu⟩ | ⟨_, h2⟩
    · rw [hu] at h; exact absurd rfl h
    · exact h2
  · rw [Rr.uint_err he]
theorem rdU_nil (w : World) : RdU w none 0 0 [] := ⟨NB.Rd.nil_mk, fun x hx => by cases hx⟩
theorem msgR_nil {w : World} {m : Mm} (hv : m.vec = []) (hb : m.body = []) : MsgR w m none 0 none 0 := ⟨by rw [hv]; exact rdU_nil w, by rw [hb]; exact NB.Rd.nil_mk⟩
theorem stp_bm {F F' : Nat → Prop} {w w' : World} {bm : Nat} (h : Stp F F' w w') : Stp (fun k => F k ∨ k = bm) (fun k => F' k ∨ k = bm) w w' :=
  ⟨h.kp.imp fun k hk => .inl hk, fun k hk => hk.elim (fun h1 => (h.sub k h1).imp .inl id) (fun h1 => .inl (.inr h1))⟩
/-- A cell of the message's box is set behind a reader's step. -/
theorem read_end {w w1 : World} {base p bm : Nat} {F F' : Nat → Prop} {r : Rr} {vs : List Value} (hr1 : HasR w1 base p F' r) (hS1 : Stp F F' w w1) (hq1 : Rw w1 bm vs 32) (hF : ¬ F bm) (j : Nat) (u : Value) (hbw : bm < w.heap.size) :
    HasR (w1.setCell ⟨bm, j, none⟩ u) base p F' r ∧ Rw (w1.setCell ⟨bm, j, none⟩ u) bm (vs.set j u) 32 ∧ (Stp (fun k => F k ∨ k = bm) (fun k => F' k ∨ k = bm) w (w1.setCell ⟨bm, j, none⟩ u) ∧ ¬ F' bm) := by
  have hk : Kp (fun k => k = bm) w1 (w1.setCell ⟨bm, j, none⟩ u) := (Kp.refl (fun k => k = bm) w1).setCell (x := ⟨bm, j, none⟩) (.inl rfl) u
  have hF' : ¬ F' bm := fun h => (hS1.sub bm h).elim hF (fun h => by omega)
  refine ⟨hr1.keep hk (fun k hf e => hF' (e ▸ hf)), hq1.set j u, (stp_bm hS1).trans (Stp.of_kp (hk.imp fun k e => .inr e)), hF'⟩

/-- What reading a field leaves. -/
def ReadE (w : World) (base p : Nat) (F : Nat → Prop) (bm f : Nat) (m : Mm) (r : Rr) (e : Ending) (w' : World) : Prop :=
  ∃ F', e = .returned (.int .i64 (readF f m r).1.e) ∧ Stp (fun k => F k ∨ k = bm) (fun k => F' k ∨ k = bm) w w' ∧
    ((readF f m r).1.e = 0 → HasR w' base p F' (readF f m r).1 ∧ ¬ F' bm ∧ ∃ av cv ab cb, (f < 8 → av = none ∧ cv = 0 ∧ ab = none ∧ cb = 0) ∧ Rw w' bm (msgV (readF f m r).2 av cv ab cb) 32 ∧ MsgR w' (readF f m r).2 av cv ab cb ∧
      (∀ j o, av = some ⟨j, o, none⟩ → w.heap.size ≤ j) ∧ (∀ j o, ab = some ⟨j, o, none⟩ → w.heap.size ≤ j))

set_option maxRecDepth 100000 in
set_option maxHeartbeats 8000000 in
theorem mread_any (w : World) (base p bm : Nat) (F : Nat → Prop) (m : Mm) (r : Rr) (h : HasR w base p F r) (hq : Rw w bm (msgV m none 0 none 0) 32) (hF : ¬ F bm) (hv : m.vec = []) (hb : m.body = []) (hlen : r.b.length ≤ 100000000000) (f : Nat) (hf : f < 10) (hf8 : f ≠ 8) (x : Int) (hx : x = ((2 ^ f : Nat) : Int)) :
    Calls Tryd.prog 26 #[.pointer (some ⟨bm, 0, none⟩), .pointer (some ⟨p, 0, none⟩), .int .u64 x] w (ReadE w base p F bm f m r) := by
  have hbw := hq.lt
  unfold ReadE
  subst hx
  have hcs : f = 0 ∨ f = 1 ∨ f = 2 ∨ f = 3 ∨ f = 4 ∨ f = 5 ∨ f = 6 ∨ f = 7 ∨ f = 9 := by omega
  rcases hcs with rfl | rfl | rfl | rfl | rfl | rfl | rfl | rfl | rfl
  · have hp : ((2 ^ 0 : Nat) : Int) = 1 := rfl
    rw [hp]
    clear hp hf hf8

    have ctu := ruint_any w base p F r h
    have hrf : readF 0 m r = (r.uint.1, { m with ballot := r.uint.2 }) := rfl
    rw [hrf]
    obtain ⟨R', x, hrx⟩ : ∃ R' x, r.uint = (R', x) := ⟨_, _, rfl⟩
    rw [hrx] at ctu ⊢
    simp only at ctu ⊢
    have HU := Go.Lib.hid ctu
    clear ctu hrx hrf h
    go_enter Tryd.func26, Tryd.ntmps26
    go_wp2_with fail
    go_at_call 51
    refine HU.out.mono ?_
    rintro e w1 ⟨rfl, F', hr1, hS1⟩
    have hq1 := hq.keep hS1.kp hF
    have f1 := hq1.free 1
    have d1 := hq1.cell 1 _ rfl
    obtain ⟨hrd, hbx, hst⟩ := read_end hr1 hS1 hq1 hF 1 (.int .u64 (x : Int)) hbw
    have HBX := Go.Lib.hid hbx
    have HST := Go.Lib.hid hst
    have HRD := Go.Lib.hid hrd
    clear hbx hst hrd hr1 hS1 hq1
    go_wp2_with (go_at_call 54; refine (rerr_any _ base p F' R' HRD.out).mono ?_; rintro e w' ⟨rfl, e2⟩; subst w')
    go_ret
    exact ⟨F', rfl, HST.out.1, fun _ => ⟨HRD.out, HST.out.2, none, 0, none, 0, (fun _ => ⟨rfl, rfl, rfl, rfl⟩), HBX.out, msgR_nil hv hb, (fun _ _ e => nomatch e), (fun _ _ e => nomatch e)⟩⟩
  · have hp : ((2 ^ 1 : Nat) : Int) = 2 := rfl
    rw [hp]
    clear hp hf hf8

    have ctu := ruint_any w base p F r h
    have hrf : readF 1 m r = (r.uint.1, { m with slot := r.uint.2 }) := rfl
    rw [hrf]
    obtain ⟨R', x, hrx⟩ : ∃ R' x, r.uint = (R', x) := ⟨_, _, rfl⟩
    rw [hrx] at ctu ⊢
    simp only at ctu ⊢
    have HU := Go.Lib.hid ctu
    clear ctu hrx hrf h
    go_enter Tryd.func26, Tryd.ntmps26
    go_wp2_with fail
    go_at_call 51
    refine HU.out.mono ?_
    rintro e w1 ⟨rfl, F', hr1, hS1⟩
    have hq1 := hq.keep hS1.kp hF
    have f1 := hq1.free 2
    have d1 := hq1.cell 2 _ rfl
    obtain ⟨hrd, hbx, hst⟩ := read_end hr1 hS1 hq1 hF 2 (.int .u64 (x : Int)) hbw
    have HBX := Go.Lib.hid hbx
    have HST := Go.Lib.hid hst
    have HRD := Go.Lib.hid hrd
    clear hbx hst hrd hr1 hS1 hq1
    go_wp2_with (go_at_call 54; refine (rerr_any _ base p F' R' HRD.out).mono ?_; rintro e w' ⟨rfl, e2⟩; subst w')
    go_ret
    exact ⟨F', rfl, HST.out.1, fun _ => ⟨HRD.out, HST.out.2, none, 0, none, 0, (fun _ => ⟨rfl, rfl, rfl, rfl⟩), HBX.out, msgR_nil hv hb, (fun _ _ e => nomatch e), (fun _ _ e => nomatch e)⟩⟩
  · have hp : ((2 ^ 2 : Nat) : Int) = 4 := rfl
    rw [hp]
    clear hp hf hf8

    have cts := small_any w base p F r h bm 3 (msgV m none 0 none 0) _ hq hF ⟨_, rfl⟩ 8 (by omega)
    unfold SmallE at cts
    have hue := uint_err_zero r
    have hrf : readF 2 m r = ((Rr.upto 11 8 r).1, { m with shard := ((Rr.upto 11 8 r).2 : Int) }) := rfl
    rw [hrf]
    have hup : Rr.upto 11 8 r = if r.uint.1.e = 0 ∧ 8 ≤ r.uint.2 then (⟨r.uint.1.b, 11⟩, 0) else r.uint := rfl
    rw [hup]
    clear hup hrf
    obtain ⟨R', x, hrx⟩ : ∃ R' x, r.uint = (R', x) := ⟨_, _, rfl⟩
    rw [hrx] at cts hue ⊢
    simp only at cts hue ⊢
    have HU := Go.Lib.hid cts
    clear cts hrx h
    by_cases hxb : 8 ≤ x
    · have he0 : R'.e = 0 := by apply Classical.byContradiction; intro hne; have := hue hne; omega
      rw [if_pos ⟨he0, hxb⟩]
      clear hue
      go_enter Tryd.func26, Tryd.ntmps26
      go_wp2_with fail
      go_at_call 52
      refine HU.out.mono ?_
      rintro e w1 ⟨F', W1, hr1, hS1, (⟨hx, rfl, rfl⟩ | ⟨hx, rfl, rfl⟩)⟩
      · go_wp2_with fail
        go_ret
        exact ⟨F', rfl, stp_bm hS1, fun h0 => absurd h0 (by decide)⟩
      · exact absurd hx (by omega)
    · rw [if_neg (by omega)]
      clear hue
      go_enter Tryd.func26, Tryd.ntmps26
      go_wp2_with fail
      go_at_call 52
      refine HU.out.mono ?_
      rintro e w1 ⟨F', W1, hr1, hS1, (⟨hx, rfl, rfl⟩ | ⟨hx, rfl, rfl⟩)⟩
      · exact absurd hx (by omega)
      · have hq1 := hq.keep hS1.kp hF
        obtain ⟨hrd, hbx, hst⟩ := read_end hr1 hS1 hq1 hF 3 (.int .i64 (x : Int)) hbw
        have HBX := Go.Lib.hid hbx
        have HST := Go.Lib.hid hst
        have HRD := Go.Lib.hid hrd
        clear hbx hst hrd hr1 hS1 hq1
        go_wp2_with (go_at_call 54; refine (rerr_any _ base p F' R' HRD.out).mono ?_; rintro e w' ⟨rfl, e2⟩; subst w')
        go_ret
        exact ⟨F', rfl, HST.out.1, fun _ => ⟨HRD.out, HST.out.2, none, 0, none, 0, (fun _ => ⟨rfl, rfl, rfl, rfl⟩), HBX.out, msgR_nil hv hb, (fun _ _ e => nomatch e), (fun _ _ e => nomatch e)⟩⟩
  · have hp : ((2 ^ 3 : Nat) : Int) = 8 := rfl
    rw [hp]
    clear hp hf hf8

    have cts := small_any w base p F r h bm 4 (msgV m none 0 none 0) _ hq hF ⟨_, rfl⟩ 4 (by omega)
    unfold SmallE at cts
    have hue := uint_err_zero r
    have hrf : readF 3 m r = ((Rr.upto 11 4 r).1, { m with seg := ((Rr.upto 11 4 r).2 : Int) }) := rfl
    rw [hrf]
    have hup : Rr.upto 11 4 r = if r.uint.1.e = 0 ∧ 4 ≤ r.uint.2 then (⟨r.uint.1.b, 11⟩, 0) else r.uint := rfl
    rw [hup]
    clear hup hrf
    obtain ⟨R', x, hrx⟩ : ∃ R' x, r.uint = (R', x) := ⟨_, _, rfl⟩
    rw [hrx] at cts hue ⊢
    simp only at cts hue ⊢
    have HU := Go.Lib.hid cts
    clear cts hrx h
    by_cases hxb : 4 ≤ x
    · have he0 : R'.e = 0 := by apply Classical.byContradiction; intro hne; have := hue hne; omega
      rw [if_pos ⟨he0, hxb⟩]
      clear hue
      go_enter Tryd.func26, Tryd.ntmps26
      go_wp2_with fail
      go_at_call 52
      refine HU.out.mono ?_
      rintro e w1 ⟨F', W1, hr1, hS1, (⟨hx, rfl, rfl⟩ | ⟨hx, rfl, rfl⟩)⟩
      · go_wp2_with fail
        go_ret
        exact ⟨F', rfl, stp_bm hS1, fun h0 => absurd h0 (by decide)⟩
      · exact absurd hx (by omega)
    · rw [if_neg (by omega)]
      clear hue
      go_enter Tryd.func26, Tryd.ntmps26
      go_wp2_with fail
      go_at_call 52
      refine HU.out.mono ?_
      rintro e w1 ⟨F', W1, hr1, hS1, (⟨hx, rfl, rfl⟩ | ⟨hx, rfl, rfl⟩)⟩
      · exact absurd hx (by omega)
      · have hq1 := hq.keep hS1.kp hF
        obtain ⟨hrd, hbx, hst⟩ := read_end hr1 hS1 hq1 hF 4 (.int .i64 (x : Int)) hbw
        have HBX := Go.Lib.hid hbx
        have HST := Go.Lib.hid hst
        have HRD := Go.Lib.hid hrd
        clear hbx hst hrd hr1 hS1 hq1
        go_wp2_with (go_at_call 54; refine (rerr_any _ base p F' R' HRD.out).mono ?_; rintro e w' ⟨rfl, e2⟩; subst w')
        go_ret
        exact ⟨F', rfl, HST.out.1, fun _ => ⟨HRD.out, HST.out.2, none, 0, none, 0, (fun _ => ⟨rfl, rfl, rfl, rfl⟩), HBX.out, msgR_nil hv hb, (fun _ _ e => nomatch e), (fun _ _ e => nomatch e)⟩⟩
  · have hp : ((2 ^ 4 : Nat) : Int) = 16 := rfl
    rw [hp]
    clear hp hf hf8

    have ctu := ruint_any w base p F r h
    have hrf : readF 4 m r = (r.uint.1, { m with client := r.uint.2 }) := rfl
    rw [hrf]
    obtain ⟨R', x, hrx⟩ : ∃ R' x, r.uint = (R', x) := ⟨_, _, rfl⟩
    rw [hrx] at ctu ⊢
    simp only at ctu ⊢
    have HU := Go.Lib.hid ctu
    clear ctu hrx hrf h
    go_enter Tryd.func26, Tryd.ntmps26
    go_wp2_with fail
    go_at_call 51
    refine HU.out.mono ?_
    rintro e w1 ⟨rfl, F', hr1, hS1⟩
    have hq1 := hq.keep hS1.kp hF
    have f1 := hq1.free 5
    have d1 := hq1.cell 5 _ rfl
    obtain ⟨hrd, hbx, hst⟩ := read_end hr1 hS1 hq1 hF 5 (.int .u64 (x : Int)) hbw
    have HBX := Go.Lib.hid hbx
    have HST := Go.Lib.hid hst
    have HRD := Go.Lib.hid hrd
    clear hbx hst hrd hr1 hS1 hq1
    go_wp2_with (go_at_call 54; refine (rerr_any _ base p F' R' HRD.out).mono ?_; rintro e w' ⟨rfl, e2⟩; subst w')
    go_ret
    exact ⟨F', rfl, HST.out.1, fun _ => ⟨HRD.out, HST.out.2, none, 0, none, 0, (fun _ => ⟨rfl, rfl, rfl, rfl⟩), HBX.out, msgR_nil hv hb, (fun _ _ e => nomatch e), (fun _ _ e => nomatch e)⟩⟩
  · have hp : ((2 ^ 5 : Nat) : Int) = 32 := rfl
    rw [hp]
    clear hp hf hf8

    have ctu := ruint_any w base p F r h
    have hrf : readF 5 m r = (r.uint.1, { m with seq := r.uint.2 }) := rfl
    rw [hrf]
    obtain ⟨R', x, hrx⟩ : ∃ R' x, r.uint = (R', x) := ⟨_, _, rfl⟩
    rw [hrx] at ctu ⊢
    simp only at ctu ⊢
    have HU := Go.Lib.hid ctu
    clear ctu hrx hrf h
    go_enter Tryd.func26, Tryd.ntmps26
    go_wp2_with fail
    go_at_call 51
    refine HU.out.mono ?_
    rintro e w1 ⟨rfl, F', hr1, hS1⟩
    have hq1 := hq.keep hS1.kp hF
    have f1 := hq1.free 6
    have d1 := hq1.cell 6 _ rfl
    obtain ⟨hrd, hbx, hst⟩ := read_end hr1 hS1 hq1 hF 6 (.int .u64 (x : Int)) hbw
    have HBX := Go.Lib.hid hbx
    have HST := Go.Lib.hid hst
    have HRD := Go.Lib.hid hrd
    clear hbx hst hrd hr1 hS1 hq1
    go_wp2_with (go_at_call 54; refine (rerr_any _ base p F' R' HRD.out).mono ?_; rintro e w' ⟨rfl, e2⟩; subst w')
    go_ret
    exact ⟨F', rfl, HST.out.1, fun _ => ⟨HRD.out, HST.out.2, none, 0, none, 0, (fun _ => ⟨rfl, rfl, rfl, rfl⟩), HBX.out, msgR_nil hv hb, (fun _ _ e => nomatch e), (fun _ _ e => nomatch e)⟩⟩
  · have hp : ((2 ^ 6 : Nat) : Int) = 64 := rfl
    rw [hp]
    clear hp hf hf8

    have ctu := ruint_any w base p F r h
    have hrf : readF 6 m r = (r.uint.1, { m with pos := r.uint.2 }) := rfl
    rw [hrf]
    obtain ⟨R', x, hrx⟩ : ∃ R' x, r.uint = (R', x) := ⟨_, _, rfl⟩
    rw [hrx] at ctu ⊢
    simp only at ctu ⊢
    have HU := Go.Lib.hid ctu
    clear ctu hrx hrf h
    go_enter Tryd.func26, Tryd.ntmps26
    go_wp2_with fail
    go_at_call 51
    refine HU.out.mono ?_
    rintro e w1 ⟨rfl, F', hr1, hS1⟩
    have hq1 := hq.keep hS1.kp hF
    have f1 := hq1.free 7
    have d1 := hq1.cell 7 _ rfl
    obtain ⟨hrd, hbx, hst⟩ := read_end hr1 hS1 hq1 hF 7 (.int .u64 (x : Int)) hbw
    have HBX := Go.Lib.hid hbx
    have HST := Go.Lib.hid hst
    have HRD := Go.Lib.hid hrd
    clear hbx hst hrd hr1 hS1 hq1
    go_wp2_with (go_at_call 54; refine (rerr_any _ base p F' R' HRD.out).mono ?_; rintro e w' ⟨rfl, e2⟩; subst w')
    go_ret
    exact ⟨F', rfl, HST.out.1, fun _ => ⟨HRD.out, HST.out.2, none, 0, none, 0, (fun _ => ⟨rfl, rfl, rfl, rfl⟩), HBX.out, msgR_nil hv hb, (fun _ _ e => nomatch e), (fun _ _ e => nomatch e)⟩⟩
  · have hp : ((2 ^ 7 : Nat) : Int) = 128 := rfl
    rw [hp]
    clear hp hf hf8

    have cts := small_any w base p F r h bm 8 (msgV m none 0 none 0) _ hq hF ⟨_, rfl⟩ 256 (by omega)
    unfold SmallE at cts
    have hue := uint_err_zero r
    have hrf : readF 7 m r = ((Rr.upto 11 256 r).1, { m with code := ((Rr.upto 11 256 r).2 : Int) }) := rfl
    rw [hrf]
    have hup : Rr.upto 11 256 r = if r.uint.1.e = 0 ∧ 256 ≤ r.uint.2 then (⟨r.uint.1.b, 11⟩, 0) else r.uint := rfl
    rw [hup]
    clear hup hrf
    obtain ⟨R', x, hrx⟩ : ∃ R' x, r.uint = (R', x) := ⟨_, _, rfl⟩
    rw [hrx] at cts hue ⊢
    simp only at cts hue ⊢
    have HU := Go.Lib.hid cts
    clear cts hrx h
    by_cases hxb : 256 ≤ x
    · have he0 : R'.e = 0 := by apply Classical.byContradiction; intro hne; have := hue hne; omega
      rw [if_pos ⟨he0, hxb⟩]
      clear hue
      go_enter Tryd.func26, Tryd.ntmps26
      go_wp2_with fail
      go_at_call 52
      refine HU.out.mono ?_
      rintro e w1 ⟨F', W1, hr1, hS1, (⟨hx, rfl, rfl⟩ | ⟨hx, rfl, rfl⟩)⟩
      · go_wp2_with fail
        go_ret
        exact ⟨F', rfl, stp_bm hS1, fun h0 => absurd h0 (by decide)⟩
      · exact absurd hx (by omega)
    · rw [if_neg (by omega)]
      clear hue
      go_enter Tryd.func26, Tryd.ntmps26
      go_wp2_with fail
      go_at_call 52
      refine HU.out.mono ?_
      rintro e w1 ⟨F', W1, hr1, hS1, (⟨hx, rfl, rfl⟩ | ⟨hx, rfl, rfl⟩)⟩
      · exact absurd hx (by omega)
      · have hq1 := hq.keep hS1.kp hF
        obtain ⟨hrd, hbx, hst⟩ := read_end hr1 hS1 hq1 hF 8 (.int .i64 (x : Int)) hbw
        have HBX := Go.Lib.hid hbx
        have HST := Go.Lib.hid hst
        have HRD := Go.Lib.hid hrd
        clear hbx hst hrd hr1 hS1 hq1
        go_wp2_with (go_at_call 54; refine (rerr_any _ base p F' R' HRD.out).mono ?_; rintro e w' ⟨rfl, e2⟩; subst w')
        go_ret
        exact ⟨F', rfl, HST.out.1, fun _ => ⟨HRD.out, HST.out.2, none, 0, none, 0, (fun _ => ⟨rfl, rfl, rfl, rfl⟩), HBX.out, msgR_nil hv hb, (fun _ _ e => nomatch e), (fun _ _ e => nomatch e)⟩⟩
  · have hp : ((2 ^ 9 : Nat) : Int) = 512 := rfl
    rw [hp]
    clear hp hf hf8

    have ctu := rbytes_any w base p F r 32768 (by omega) h hlen
    have hrf : readF 9 m r = ((r.bytes 32768).1, { m with body := (r.bytes 32768).2 }) := rfl
    rw [hrf]
    obtain ⟨R', x, hrx⟩ : ∃ R' x, r.bytes 32768 = (R', x) := ⟨_, _, rfl⟩
    rw [hrx] at ctu ⊢
    simp only at ctu ⊢
    have HU := Go.Lib.hid ctu
    clear ctu hrx hrf h
    go_enter Tryd.func26, Tryd.ntmps26
    go_wp2_with fail
    go_at_call 53
    refine HU.out.mono ?_
    rintro e w1 ⟨a1, c1, F', rfl, ho1, hr1, hS1, hof1⟩
    simp only at ho1 hr1 hof1 ⊢
    have hq1 := hq.keep hS1.kp hF
    have f1 := hq1.free 10
    have d1 := hq1.cell 10 _ rfl
    obtain ⟨_, _, e9, hrr, hnew, _⟩ := NB.rd_of_own ho1
    cases e9
    obtain ⟨hrd, hbx, hst⟩ := read_end hr1 hS1 hq1 hF 10 (.slice a1 x.length c1) hbw
    have hrr2 : NB.RdB (w1.setCell ⟨bm, 10, none⟩ (.slice a1 x.length c1)) a1 x.length c1 x := ((Kp.refl (fun k => k = bm) w1).setCell (x := ⟨bm, 10, none⟩) (.inl rfl) _).rdB hrr (fun b o e hn hb => by subst hb; have := (hnew b o e).1; have := hq.lt; omega)
    have hnl := hrr2.len
    have HBX := Go.Lib.hid hbx
    have HST := Go.Lib.hid hst
    have HRD := Go.Lib.hid hrd
    have HRR := Go.Lib.hid hrr2
    clear hbx hst hrd hr1 hS1 hq1 hrr2 hrr ho1 hof1
    go_wp2_with (go_at_call 54; refine (rerr_any _ base p F' R' HRD.out).mono ?_; rintro e w' ⟨rfl, e2⟩; subst w')
    go_ret
    exact ⟨F', rfl, HST.out.1, fun _ => ⟨HRD.out, HST.out.2, none, 0, a1, c1, (fun h => absurd h (by decide)), HBX.out, ⟨(by rw [hv]; exact rdU_nil _), HRR.out⟩, (fun _ _ e => nomatch e), (fun j o e => (hnew j o e).1)⟩⟩
end Go.Proofs.YtadgokegjmigoaaDoor
