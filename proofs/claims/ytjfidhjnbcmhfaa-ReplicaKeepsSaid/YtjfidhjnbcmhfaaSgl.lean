/- A record is appended to a segment. Walked. -/
import Derived.Test.YtjfidhjnbcmhfaaSgk
import Derived.Test.YtjfidhjnbcmhfaaSgc
namespace Go.Proofs.Ytjfidhjnbcmhfaa
open Go.RowKit Go.Shelf
open Go.NB (Rd Dk Kp Stp Off Dis val oneB dB Rw MapI KeyI I64)

theorem waits_wr (D : Dk) (i : Int) (b : List UInt8) : (D.write i b).1.waits.length ≤ D.waits.length + 1 := by
  unfold Dk.write
  repeat' split
  all_goals simp
def AppS (w : World) (base q based p : Nat) (F G : Nat → Prop) (r : Dk × Sg × Nat × Int) (e : Ending) (w' : World) : Prop :=
  e = .returned (.tuple #[.int .i64 (r.2.2.1 : Int), .int .i64 r.2.2.2]) ∧ DidS w base q based p F G r.2.1 r.1 w'
theorem appS_same {w w' : World} {base q based p : Nat} {F G : Nat → Prop} {S : Sg} {D : Dk} {x : Int} (h : HasSg w base q p F S) (hD : HasD w based p G D) (hFG : Dis F G) (hb : Below w.heap.size w w') :
    AppS w base q based p F G (D, S, 0, x) (.returned (.tuple #[.int .i64 0, .int .i64 x])) w' :=
  ⟨rfl, F, G, h.below hb, hD.below hb, hFG, Stp.of_below hb⟩

/-- While the parts are written. -/
structure AppK (w : World) (base q based p : Nat) (F G : Nat → Prop) (v : Value) (its : List Itm) (S : Sg) (D : Dk) (xb pg po many pc : Nat) (ps : List Itm) (a : Option Addr) (n c : Nat) (b : List UInt8) (i : Nat) (wr : World) (Di : Dk) (Gi : Nat → Prop) : Prop where
  s : IsSg wr base q p v its S
  d : HasD wr based p Gi Di
  dis : Dis (footS q v its) Gi
  nx : ∀ k, Gi k → k ≠ xb ∧ k ≠ pg
  nf : w.heap.size ≤ xb ∧ w.heap.size ≤ pg ∧ xb ≠ pg ∧ xb < wr.heap.size ∧ pg < wr.heap.size
  lt : ∀ k, footS q v its k → k < w.heap.size
  old : NB.RdB w a n c b
  off : Off (fun k => F k ∨ Gi k) wr a n c b
  rd : Rd 1 wr (some ⟨pg, po, none⟩) many pc (itV ps)
  f : F = footS q v its
  stp : Stp (fun k => F k ∨ G k) (fun k => F k ∨ Gi k) w wr
  run : wrM S b many (many - i) i Di = wrM S b many many 0 D
  wt : Di.waits.length ≤ D.waits.length + i
section
variable {w : World} {base q based p : Nat} {F G : Nat → Prop} {v : Value} {its : List Itm} {S : Sg} {D : Dk} {xb pg po many pc : Nat} {ps : List Itm} {a : Option Addr} {n c : Nat} {b : List UInt8} {i : Nat} {wr wr' : World} {Di D' : Dk} {Gi G' : Nat → Prop}
theorem AppK.keep {H : Nat → Prop} (h : AppK w base q based p F G v its S D xb pg po many pc ps a n c b i wr Di Gi) (hk : Kp H wr wr') (hH : ∀ k, H k → k = xb) : AppK w base q based p F G v its S D xb pg po many pc ps a n c b i wr' Di Gi := by
  obtain ⟨n1, n2, n3, n4, n5⟩ := h.nf
  have hsz := h.stp.size
  refine ⟨h.s.keep hk (fun k hf hh => ?_), h.d.keep hk (fun k hg hh => (h.nx k hg).1 (hH k hh)), h.dis, h.nx, ⟨n1, n2, n3, Nat.lt_of_lt_of_le n4 hk.size, Nat.lt_of_lt_of_le n5 hk.size⟩, h.lt, h.old, ⟨hk.rdB h.off.rd (fun k o e hn hh => ?_), h.off.nf⟩, hk.rd h.rd (fun k o e hn hh => ?_), h.f, h.stp.below (hk.belowB (B := w.heap.size) hsz (fun k hh => by rw [hH k hh]; exact n1)) (Nat.le_refl _), h.run, h.wt⟩
  · have := h.lt k hf; have := hH k hh; omega
  · have := h.old.lt k o e (by simpa using hn); have := hH k hh; omega
  · cases e; exact n3 (hH _ hh).symm
theorem AppK.wrote (h : AppK w base q based p F G v its S D xb pg po many pc ps a n c b i wr Di Gi) (hd : HasD wr' based p G' D') (hS : Stp Gi G' wr wr') (hi : i < many) (hw : Di.write ((S.frm + S.used + i : Nat) : Int) (blkL S.epoch (S.l.length + 1) i many (piece b i)) = (D', 0)) : AppK w base q based p F G v its S D xb pg po many pc ps a n c b (i + 1) wr' D' G' := by
  obtain ⟨n1, n2, n3, n4, n5⟩ := h.nf
  have hsz := h.stp.size
  refine ⟨h.s.keep hS.kp h.dis, hd, h.dis.step (fun k hk => Nat.lt_of_lt_of_le (h.lt k hk) hsz) hS, fun k hg => ?_, ⟨n1, n2, n3, Nat.lt_of_lt_of_le n4 hS.size, Nat.lt_of_lt_of_le n5 hS.size⟩, h.lt, h.old, h.off.step (Stp.addL hS F), hS.kp.rd h.rd (fun k o e hn hh => ?_), h.f, h.stp.trans (Stp.addL hS F), ?_, ?_⟩
  · rcases hS.sub k hg with h1 | h1
    · exact h.nx k h1
    · constructor <;> omega
  · cases e; exact (h.nx _ hh).2 rfl
  · rw [← h.run, show many - i = (many - (i + 1)) + 1 by omega]
    rw [wrM, hw, if_neg (by simp)]
  · have := waits_wr Di ((S.frm + S.used + i : Nat) : Int) (blkL S.epoch (S.l.length + 1) i many (piece b i))
    rw [hw] at this
    have h2 := h.wt
    simp only at this
    omega
theorem AppK.failed (h : AppK w base q based p F G v its S D xb pg po many pc ps a n c b i wr Di Gi) (hi : i < many) {x : Int} (hx : x ≠ 0) (hw : Di.write ((S.frm + S.used + i : Nat) : Int) (blkL S.epoch (S.l.length + 1) i many (piece b i)) = (D', x)) : wrM S b many many 0 D = (D', x) := by
  rw [← h.run, show many - i = (many - (i + 1)) + 1 by omega]
  rw [wrM, hw, if_pos hx]
end

theorem pcs_b {sa : Option Addr} {b : List UInt8} {k i : Nat} {x : Itm} (h : (pcs sa b k)[i]? = some x) : x.b = piece b i := by
  unfold pcs at h
  rw [List.getElem?_map] at h
  cases hr : (List.range k)[i]? with
  | none => rw [hr] at h; cases h
  | some j =>
    rw [hr] at h
    have hj : j = i := by
      rw [List.getElem?_eq_some_iff] at hr
      obtain ⟨h1, h2⟩ := hr
      simpa using h2.symm
    subst hj
    simp only [Option.map_some, Option.some.injEq] at h
    rw [← h]
theorem app_fail {w : World} {base q based p : Nat} {F G : Nat → Prop} {v : Value} {its : List Itm} {S S' : Sg} {D : Dk} {xb pg po many pc : Nat} {ps : List Itm} {a : Option Addr} {n c : Nat} {b : List UInt8} {i : Nat} {wr w4 W : World} {Di D' : Dk} {Gi G' : Nat → Prop}
    (h : AppK w base q based p F G v its S D xb pg po many pc ps a n c b i wr Di Gi) (hd : HasD w4 based p G' D') (hS : Stp Gi G' wr w4) (h5 : IsSg W base q p v its S') (hk : Kp (fun k => k = q) w4 W) : DidS w base q based p F G S' D' W := by
  have hdis := h.dis.step (fun k hk => Nat.lt_of_lt_of_le (h.lt k hk) h.stp.size) hS
  have hf := h.f
  subst hf
  exact ⟨_, G', ⟨v, its, h5, rfl⟩, hd.keep hk (fun k hg e => by subst e; exact hdis _ (.inl rfl) hg), hdis, (h.stp.trans (Stp.addL hS _)).trans (Stp.of_kp (hk.imp fun k e => .inl (.inl e)))⟩
theorem app_done {w : World} {base q based p : Nat} {F G : Nat → Prop} {v v' : Value} {its : List Itm} {S S' : Sg} {D : Dk} {xb pg po many pc : Nat} {ps : List Itm} {a : Option Addr} {n c : Nat} {b : List UInt8} {i : Nat} {v3 v4 W : World} {Di : Dk} {Gi : Nat → Prop} {x : Itm}
    (h : AppK w base q based p F G v its S D xb pg po many pc ps a n c b i v3 Di Gi) (hb : Below v3.heap.size v3 v4) (hk : Kp (fun k => k = q ∨ v.ownBlock = some k) v4 W) (h5 : IsSg W base q p v' (its ++ [x]) S')
    (hvb : ∀ k, v'.ownBlock = some k → v.ownBlock = some k ∨ v4.heap.size ≤ k) (hnew : ∀ b' o', x.a = some ⟨b', o', none⟩ → v3.heap.size ≤ b') : DidS w base q based p F G S' Di W := by
  have hf := h.f
  subst hf
  have hsub : ∀ k, footS q v' (its ++ [x]) k → footS q v its k ∨ v3.heap.size ≤ k := by
    rintro k (rfl | e | ⟨y, hy, hyb, o, ha⟩)
    · exact .inl (.inl rfl)
    · exact (hvb k e).imp (fun e => .inr (.inl e)) (fun e => Nat.le_trans hb.size e)
    · rcases List.mem_append.1 hy with hy | hy
      · exact .inl (.inr (.inr ⟨y, hy, hyb, o, ha⟩))
      · rw [List.mem_singleton] at hy; subst hy; exact .inr (hnew _ _ ha)
  have hkk : Kp (fun k => footS q v its k ∨ Gi k) v3 W := (Kp.of_below (F := fun k => footS q v its k ∨ Gi k) hb).trans hk (by rintro k (rfl | e); exact .inl (.inl (.inl rfl)); exact .inl (.inl (.inr (.inl e))))
  refine ⟨_, Gi, ⟨v', its ++ [x], h5, rfl⟩, (h.d.below hb).keep hk ?_, ?_, h.stp.trans ⟨hkk, ?_⟩⟩
  · rintro k hg (rfl | e)
    · exact h.dis _ (.inl rfl) hg
    · exact h.dis _ (.inr (.inl e)) hg
  · intro k hf hg
    rcases hsub k hf with h1 | h1
    · exact h.dis k h1 hg
    · have := (h.d.foot k hg).2; omega
  · rintro k (hk | hk)
    · exact (hsub k hk).imp .inl id
    · exact .inl (.inr hk)

set_option maxHeartbeats 400000 in
theorem sapp_nil (w : World) (a : Option Addr) (n c : Nat) (hn : n ≤ 1000000) : Calls Try.prog 42 #[.pointer none, .slice a n c] w fun e w' => e = .returned (.tuple #[.int .i64 0, .int .i64 1]) ∧ w' = w := by
  have ctn := need_any w n (by omega)
  go_enter Try.func42, Try.ntmps42
  go_wp2_with (go_at_call 55; refine ctn.mono ?_; rintro e w' ⟨rfl, e2⟩; subst w')
  go_ret2
  exact ⟨rfl, rfl⟩

set_option maxRecDepth 100000 in
set_option maxHeartbeats 4000000 in
theorem sapp_any (w : World) (base q based p : Nat) (F G : Nat → Prop) (S : Sg) (D : Dk) (a : Option Addr) (n c : Nat) (b : List UInt8) (h : HasSg w base q p F S) (hD : HasD w based p G D) (hFG : Dis F G) (hob : Off (fun k => F k ∨ G k) w a n c b) (hwn : D.waits.length ≤ 900000) (hn : n ≤ 1000000) :
    Calls Try.prog 42 #[.pointer (some ⟨q, 0, none⟩), .slice a n c] w (AppS w base q based p F G (appM D S b)) := by
  have hsz := NB.RdB.size hob.rd
  have h0 := h
  obtain ⟨v, its, h, hF⟩ := h
  obtain ⟨a0, c0, rfl, _⟩ := h.slice
  have hits : its.length = S.l.length := h.size
  have ctn := need_any w n (by omega)
  have ctf := sfree_any w base q p F S h0
  have c8 := h.cellv 8 _ rfl
  by_cases h1 : 4096 < n
  · have hq : appM D S b = (D, S, 0, 13) := by unfold appM; rw [if_pos (by omega)]
    have hni : (4096 : Int) < (n : Int) := by omega
    rw [hq]
    go_enter Try.func42, Try.ntmps42
    go_wp2_with (go_at_call 55; refine ctn.mono ?_; rintro e w' ⟨rfl, e2⟩; subst w')
    go_ret2
    exact appS_same h0 hD hFG (Below.refl _ _)
  have hni : ¬ (4096 : Int) < (n : Int) := by omega
  by_cases he : S.e = 0
  case neg =>
    have hq : appM D S b = (D, S, 0, S.e) := by unfold appM; rw [if_neg (by omega), if_pos he]
    have he' : (S.e == 0) = false := by simpa using he
    rw [hq]
    go_enter Try.func42, Try.ntmps42
    go_wp2_with (go_at_call 55; refine ctn.mono ?_; rintro e w' ⟨rfl, e2⟩; subst w')
    refine NB.wp_region_m (by kernel_rfl) ?_
    have c8 := (h.below (dB w)).cellv 8 _ rfl
    refine NB.any_p 0 rfl (by kernel_rfl) (fun K hK => ?_); go_simp; refine hK _ ?_; clear hK K
    refine NB.any_p 1 rfl (by kernel_rfl) (fun K hK => ?_); go_simp; refine hK _ ?_; clear hK K
    refine NB.any_p 2 rfl (by kernel_rfl) (fun K hK => ?_); go_simp; refine hK _ ?_; clear hK K
    refine NB.any_r 3 rfl (by kernel_rfl) rfl _ (fun w' hw' => NB.run_op_load rfl rfl Try.underlying25 rfl (c8) hw') (fun K hK => ?_); go_simp; refine hK _ ?_; clear hK K
    refine NB.any_p 4 rfl (by kernel_rfl) (fun K hK => ?_); go_simp; refine hK _ ?_; clear hK K
    refine NB.any_p 5 rfl (by kernel_rfl) (fun K hK => ?_); go_simp; refine hK _ ?_; clear hK K
    refine NB.any_end (by kernel_rfl) ?_
    go_wp2_with fail
    go_ret2
    exact appS_same h0 hD hFG (dB w)
  rw [he] at c8
  have hmq : needM b.length = needM n := by rw [hsz]
  obtain ⟨m1, m2⟩ := need_le (n := n) (by omega)
  have hm3 : n ≤ 45 * needM n ∧ (n = 0 ∧ needM n = 1 ∨ 45 * (needM n - 1) < n) := by unfold needM; omega
  have hq1 : appM D S b = if (S.n : Int) - S.used < needM n then (D, S, 0, 21) else if (wrM S b (needM n) (needM n) 0 D).2 ≠ 0 then ((wrM S b (needM n) (needM n) 0 D).1, { S with e := (wrM S b (needM n) (needM n) 0 D).2 }, 0, (wrM S b (needM n) (needM n) 0 D).2)
      else ((wrM S b (needM n) (needM n) 0 D).1, { S with l := S.l ++ [b], used := S.used + needM n }, S.l.length, 0) := by
    unfold appM; rw [if_neg (by omega), if_neg (by omega), hmq]
  generalize needM n = many at *
  clear hmq
  by_cases hsp : (S.n : Int) - S.used < many
  · rw [if_pos hsp] at hq1
    rw [hq1]
    clear hq1
    go_enter Try.func42, Try.ntmps42
    go_wp2_with (first | (go_at_call 55; refine ctn.mono ?_; rintro e w' ⟨rfl, e2⟩; subst w') | (go_at_call 56; refine ctf.mono ?_; rintro e w1 ⟨rfl, hb1⟩))
    go_ret2
    exact appS_same h0 hD hFG hb1
  rw [if_neg hsp] at hq1
  have HQ := Go.Lib.hid hq1
  clear hq1
  have hslen := h.len
  have hsn := h.n
  have hsu := h.used
  have hsf := h.frm
  have hse := h.epoch
  have hll : S.l.length ≤ 65536 := by omega
  have hcv : IntKind.u64.wrap ((S.l.length : Nat) : Int) = ((S.l.length : Nat) : Int) := IntWalk.u64_in _ ⟨by omega, by omega⟩
  have hcv1 : IntKind.u64.wrap ((S.l.length : Int) + 1) = (S.l.length : Int) + 1 := IntWalk.u64_in _ ⟨by omega, by omega⟩
  go_enter Try.func42, Try.ntmps42
  go_wp2_with (first | (go_at_call 55; refine ctn.mono ?_; rintro e w' ⟨rfl, e2⟩; subst w') | (go_at_call 56; refine ctf.mono ?_; rintro e w1 ⟨rfl, hb1⟩))
  have h1 := h.below hb1
  have d1 := hD.below hb1
  have o1 := hob.below hb1
  refine NB.wp_region_t [14] (by kernel_rfl) ?_
  have s2 := h1.below (dB w1)
  have d2 := d1.below (dB w1)
  have o2 := o1.below (dB w1)
  have B2 : Below w.heap.size w w1.drew := NB.bel hb1 (dB w1) hb1.size
  clear h1 hb1 d1 o1
  generalize w1.drew = w2 at *
  have c3 := s2.cellv 3 _ rfl
  have c4 := s2.cellv 4 _ rfl
  refine NB.t_p 0 rfl (by kernel_rfl) (fun K hK => ?_); go_simp; refine hK _ ?_; clear hK K
  refine NB.t_p 1 rfl (by kernel_rfl) (fun K hK => ?_); go_simp; refine hK _ ?_; clear hK K
  refine NB.t_p 2 rfl (by kernel_rfl) (fun K hK => ?_); go_simp; refine hK _ ?_; clear hK K
  refine NB.t_r 3 [12, 14] rfl (by kernel_rfl) (by kernel_rfl) rfl _ (fun w' hw' => NB.run_op_load rfl rfl Try.underlying32 rfl (c3) hw') (fun K hK => ?_); go_simp; refine hK _ ?_; clear hK K
  refine NB.t_p 4 rfl (by kernel_rfl) (fun K hK => ?_); go_simp; refine hK _ ?_; clear hK K
  refine NB.t_p 5 rfl (by kernel_rfl) (fun K hK => ?_); go_simp; refine hK _ ?_; clear hK K
  refine NB.t_p 6 rfl (by kernel_rfl) (fun K hK => ?_); go_simp; refine hK _ ?_; clear hK K
  refine NB.t_r 7 [8, 9, 10, 12, 14] rfl (by kernel_rfl) (by kernel_rfl) rfl _ (fun w' hw' => NB.run_op_load rfl rfl Try.underlying44 rfl (c4) hw') (fun K hK => ?_); go_simp; refine hK _ ?_; clear hK K
  refine NB.t_p 8 rfl (by kernel_rfl) (fun K hK => ?_); go_simp; refine hK _ ?_; clear hK K
  refine NB.t_p 9 rfl (by kernel_rfl) (fun K hK => ?_); go_simp; refine hK _ ?_; clear hK K
  refine NB.t_p 10 rfl (by kernel_rfl) (fun K hK => ?_); go_simp; refine hK _ ?_; clear hK K
  refine NB.t_p 11 rfl (by kernel_rfl) (fun K hK => ?_); go_simp; refine hK _ ?_; clear hK K
  refine NB.t_p 12 rfl (by kernel_rfl) (fun K hK => ?_); go_simp; refine hK _ ?_; clear hK K
  refine NB.t_e 13 rfl (by kernel_rfl) (by kernel_rfl) (fun K hK => ?_); unfold NB.tmoves; go_simp; refine ⟨(Below.refl _ _).alloc (Nat.le_refl _) _, hK _ _ ?_⟩; clear hK K
  refine NB.t_w 14 rfl (by kernel_rfl) (by kernel_rfl) rfl (fun Q' hK => ?_)
  go_wp2_with fail
  refine NB.t_end (by kernel_rfl) ?_
  have rowX : Rw (w2.alloc (.cells #[.int .u64 (S.epoch : Int), .int .u64 ((S.l.length : Int) + 1), .int .i64 0, .int .i64 (many : Int), .slice none 0 0] 93)) w2.heap.size [.int .u64 (S.epoch : Int), .int .u64 ((S.l.length : Int) + 1), .int .i64 0, .int .i64 (many : Int), .slice none 0 0] 93 := NB.rw_new w2 [.int .u64 (S.epoch : Int), .int .u64 ((S.l.length : Int) + 1), .int .i64 0, .int .i64 (many : Int), .slice none 0 0] 93 rfl
  have s3 := s2.below (oneB w2 (.cells #[.int .u64 (S.epoch : Int), .int .u64 ((S.l.length : Int) + 1), .int .i64 0, .int .i64 (many : Int), .slice none 0 0] 93))
  have d3 := d2.below (oneB w2 (.cells #[.int .u64 (S.epoch : Int), .int .u64 ((S.l.length : Int) + 1), .int .i64 0, .int .i64 (many : Int), .slice none 0 0] 93))
  have o3 := o2.below (oneB w2 (.cells #[.int .u64 (S.epoch : Int), .int .u64 ((S.l.length : Int) + 1), .int .i64 0, .int .i64 (many : Int), .slice none 0 0] 93))
  have B3 := NB.bel B2 (oneB w2 (.cells #[.int .u64 (S.epoch : Int), .int .u64 ((S.l.length : Int) + 1), .int .i64 0, .int .i64 (many : Int), .slice none 0 0] 93)) B2.size
  have hxb1 := B2.size
  clear s2 d2 o2 B2 c3 c4
  generalize w2.alloc (.cells #[.int .u64 (S.epoch : Int), .int .u64 ((S.l.length : Int) + 1), .int .i64 0, .int .i64 (many : Int), .slice none 0 0] 93) = w3 at *
  generalize w2.heap.size = xb at *
  clear w2
  have hxb2 := rowX.lt
  have ctc := collect_any ((w3.alloc (.cells #[.slice a n c] 22)).alloc (.cells #[.int .i64 45] 3)) w3.heap.size (w3.heap.size + 1) a n c b (Rd.below o3.rd (NB.twoB w3 _ _)) (by omega) (((NB.rw_new w3 [.slice a n c] 22 rfl).below (oneB _ _)).cell 0 _ rfl) ((NB.rw_new (w3.alloc (.cells #[.slice a n c] 22)) [.int .i64 45] 3 (g := w3.heap.size + 1) (by simp)).cell 0 _ rfl)
  have hlt0 := h.foot
  have hF0 := h0.foot
  have hG0 := hD.foot
  by_cases hn0 : n = 0
  · subst hn0
    have hm1 : many = 1 := by omega
    have hb0 : b = [] := List.eq_nil_of_length_eq_zero (by omega)
    have HM1 := Go.Lib.hid hm1
    have HB0 := Go.Lib.hid hb0
    clear hm1 hb0 hm3
    go_wp2_with (first
      | (go_at_call 58; refine (chunk_any _ _ _ _).mono ?_; rintro e w' ⟨rfl, e2⟩; subst w'))
    go_at_call 57
    refine ctc.mono ?_
    rintro e w5 ⟨pv, k, rfl, hpo, hk1, hk2, hb5⟩
    have hk0 : k = 0 := by omega
    have hbt : Below w3.heap.size w3 w5 := NB.bel (NB.twoB w3 _ _) hb5 (by simp; omega)
    have s5 := s3.below hbt
    have d5 := d3.below hbt
    have o5 := o3.below hbt
    have B5 := NB.bel B3 hbt B3.size
    have RX5 := rowX.below hbt
    clear s3 d3 o3 B3 rowX hbt hb5 hpo
    go_wp2_with fail
    have rd6 : Rd 1 (w5.alloc (.cells #[.slice none 0 0] 22)) (some ⟨w5.heap.size, 0, none⟩) 1 1 [.slice none 0 0] := NB.rd_new w5 #[.slice none 0 0] 22 1 rfl (by unfold maxLen; omega) rfl
    have s6 := s5.below (oneB w5 (.cells #[.slice none 0 0] 22))
    have d6 := d5.below (oneB w5 (.cells #[.slice none 0 0] 22))
    have o6 := o5.below (oneB w5 (.cells #[.slice none 0 0] 22))
    have RX0 := RX5.below (oneB w5 (.cells #[.slice none 0 0] 22))
    have B6 := NB.bel B5 (oneB w5 (.cells #[.slice none 0 0] 22)) B5.size
    have hpg1 := B5.size
    have hxp := RX5.lt
    have hpg2 : w5.heap.size < (w5.alloc (.cells #[.slice none 0 0] 22)).heap.size := by simp
    clear s5 d5 o5 RX5 B5
    generalize w5.alloc (.cells #[.slice none 0 0] 22) = wl at *
    generalize w5.heap.size = pg at *
    have hps : ∀ (w' : World) (i : Nat) (x : Itm), NB.RdB w' a 0 c b → [(⟨none, 0, []⟩ : Itm)][i]? = some x → x.b = piece b i ∧ NB.RdB w' x.a x.b.length x.c x.b := by
      intro w' i x _ hx
      have hi : i = 0 := by
        cases i with
        | zero => rfl
        | succ j => simp at hx
      subst hi
      simp only [List.getElem?_cons_zero, Option.some.injEq] at hx
      subst hx
      rw [HB0.out]
      exact ⟨rfl, NB.Rd.nil_mk⟩
    have hpsl : [(⟨none, 0, []⟩ : Itm)].length = many := by rw [HM1.out]; rfl
    have K0 : AppK w base q based p F G (.slice a0 S.l.length c0) its S D xb pg 0 many 1 [⟨none, 0, []⟩] a 0 c b 0 wl D G :=
      ⟨s6, d6, hF ▸ hFG, fun k hk => by (have := (hG0 k hk).2; constructor <;> omega), ⟨hxb1, hpg1, by omega, by omega, hpg2⟩, fun k hk => (hlt0 k hk).2, hob.rd, o6, by rw [HM1.out]; exact rd6, hF, Stp.of_below B6, rfl, Nat.le_add_right _ _⟩
    clear s6 d6 o6 B6 rd6
    go_loopw [59] (fun i wr => ∃ (k : Nat) (Di : Dk) (Gi : Nat → Prop) (pt : Int) (u : Value), i = .int .i64 k ∧ k ≤ many ∧ AppK w base q based p F G (.slice a0 S.l.length c0) its S D xb pg 0 many 1 [(⟨none, 0, []⟩ : Itm)] a 0 c b k wr Di Gi ∧ Rw wr xb [.int .u64 (S.epoch : Int), .int .u64 ((S.l.length : Int) + 1), .int .i64 pt, .int .i64 (many : Int), u] 93) (fun i _ => many - (intOf i).toNat)
    case atStart => exact ⟨0, D, G, 0, _, rfl, by omega, K0, RX0⟩
    case round =>
      clear K0 RX0
      obtain ⟨k, Di, Gi, pt, u, rfl, hk, K, RX⟩ := hrel
      by_cases hlt : k < many
      · obtain ⟨it, hit⟩ : ∃ it, [(⟨none, 0, []⟩ : Itm)][k]? = some it := ⟨_, List.getElem?_eq_getElem (by omega)⟩
        obtain ⟨hib, _⟩ := hps wr k it K.off.rd hit
        obtain ⟨ia, ic, ib⟩ := it
        simp only at hib
        subst hib
        have hcp : wr.cell? ⟨pg, k, none⟩ = some (.slice ia (piece b k).length ic) := by simpa using K.rd.cell _ _ rfl k (.slice ia (piece b k).length ic) (by unfold itV; rw [List.getElem?_map, hit]; rfl)
        have x2 := RX.cell 2 _ rfl
        have g2 := RX.free 2
        have x4 := (RX.set 2 (.int .i64 (k : Int))).cell 4 _ rfl
        have g4 := (RX.set 2 (.int .i64 (k : Int))).free 4
        have KX := K.keep (((Kp.refl (fun k => k = xb) wr).setCell (x := ⟨xb, 2, none⟩) (.inl rfl) (.int .i64 (k : Int))).setCell (x := ⟨xb, 4, none⟩) (.inl rfl) (.slice ia (piece b k).length ic)) (fun k h => h)
        have RXn : Rw ((wr.setCell ⟨xb, 2, none⟩ (.int .i64 (k : Int))).setCell ⟨xb, 4, none⟩ (.slice ia (piece b k).length ic)) xb [.int .u64 (S.epoch : Int), .int .u64 ((S.l.length : Int) + 1), .int .i64 (k : Int), .int .i64 (many : Int), .slice ia (piece b k).length ic] 93 := (RX.set 2 (.int .i64 (k : Int))).set 4 (.slice ia (piece b k).length ic)
        have hw1 := i64_add (a := S.frm) (b := S.used) (by omega) (by omega)
        have hw2 : IntKind.i64.wrap ((S.frm : Int) + (S.used : Int) + (k : Int)) = (S.frm : Int) + (S.used : Int) + (k : Int) := IntWalk.i64_in _ ⟨by omega, by omega⟩
        obtain ⟨D', x, hwr⟩ : ∃ D' x, Di.write ((S.frm : Int) + (S.used : Int) + (k : Int)) (blkL S.epoch (S.l.length + 1) k many (piece b k)) = (D', x) := ⟨_, _, rfl⟩
        have hwr' : Di.write ((S.frm + S.used + k : Nat) : Int) (blkL S.epoch (S.l.length + 1) k many (piece b k)) = (D', x) := by
          rw [show ((S.frm + S.used + k : Nat) : Int) = (S.frm : Int) + (S.used : Int) + (k : Int) by omega]; exact hwr
        have HWR := Go.Lib.hid hwr'
        have HIT := Go.Lib.hid hit
        have HP := Go.Lib.hid hps
        have hwt := K.wt
        clear K RX hwr' hit
        have hki : (k : Int) < 1 := by have := HM1.out; omega -- by omega
        go_wp2_with fail
        refine NB.wp_region_t [17] (by kernel_rfl) ?_
        have K2 := KX.keep (H := fun _ => False) (Kp.of_below (dB _)) (fun k h => h.elim)
        have RX2 := RXn.below (dB _)
        clear KX RXn
        generalize ((wr.setCell ⟨xb, 2, none⟩ (.int .i64 (k : Int))).setCell ⟨xb, 4, none⟩ (.slice ia (piece b k).length ic)).drew = v2 at *
        obtain ⟨_, hrp⟩ := HP.out v2 k ⟨ia, ic, piece b k⟩ K2.off.rd HIT.out
        have hple := piece_len b k
        have ctl := slaid_any v2 S.epoch (S.l.length + 1) k many _ _ _ _ hrp hple (by omega) (by omega) (by omega) (by omega)
        unfold blkV at ctl
        rw [show ((S.l.length + 1 : Nat) : Int) = (S.l.length : Int) + 1 by omega] at ctl
        simp only [List.toArray] at ctl
        have c0 := K2.s.cellv 0 _ rfl
        have c1 := K2.s.cellv 1 _ rfl
        have c5 := K2.s.cellv 5 _ rfl
        refine NB.t_p 0 rfl (by kernel_rfl) (fun K hK => ?_); go_simp; refine hK _ ?_; clear hK K
        refine NB.t_p 1 rfl (by kernel_rfl) (fun K hK => ?_); go_simp; refine hK _ ?_; clear hK K
        refine NB.t_p 2 rfl (by kernel_rfl) (fun K hK => ?_); go_simp; refine hK _ ?_; clear hK K
        refine NB.t_r 3 [17, 18] rfl (by kernel_rfl) (by kernel_rfl) rfl _ (fun w' hw' => NB.run_op_load rfl rfl Try.underlying24 rfl (c0) hw') (fun K hK => ?_); go_simp; refine hK _ ?_; clear hK K
        refine NB.t_p 4 rfl (by kernel_rfl) (fun K hK => ?_); go_simp; refine hK _ ?_; clear hK K
        refine NB.t_p 5 rfl (by kernel_rfl) (fun K hK => ?_); go_simp; refine hK _ ?_; clear hK K
        refine NB.t_p 6 rfl (by kernel_rfl) (fun K hK => ?_); go_simp; refine hK _ ?_; clear hK K
        refine NB.t_r 7 [12, 14, 17, 18] rfl (by kernel_rfl) (by kernel_rfl) rfl _ (fun w' hw' => NB.run_op_load rfl rfl Try.underlying3 rfl (c1) hw') (fun K hK => ?_); go_simp; refine hK _ ?_; clear hK K
        refine NB.t_p 8 rfl (by kernel_rfl) (fun K hK => ?_); go_simp; refine hK _ ?_; clear hK K
        refine NB.t_p 9 rfl (by kernel_rfl) (fun K hK => ?_); go_simp; refine hK _ ?_; clear hK K
        refine NB.t_p 10 rfl (by kernel_rfl) (fun K hK => ?_); go_simp; refine hK _ ?_; clear hK K
        refine NB.t_r 11 [12, 14, 17, 18] rfl (by kernel_rfl) (by kernel_rfl) rfl _ (fun w' hw' => NB.run_op_load rfl rfl Try.underlying3 rfl (c5) hw') (fun K hK => ?_); go_simp; refine hK _ ?_; clear hK K
        refine NB.t_p 12 rfl (by kernel_rfl) (fun K hK => ?_); go_simp; refine hK _ ?_; clear hK K
        refine NB.t_p 13 rfl (by kernel_rfl) (fun K hK => ?_); go_simp; refine hK _ ?_; clear hK K
        refine NB.t_p 14 rfl (by kernel_rfl) (fun K hK => ?_); go_simp; refine hK _ ?_; clear hK K
        refine NB.t_r 15 [16, 17, 18] rfl (by kernel_rfl) (by kernel_rfl) rfl _ (fun w' hw' => NB.run_op_load_agg rfl rfl Try.underlying93 rfl _ _ (0, 0) (RX2) (m := 5) (by kernel_rfl) (by simp) _ rfl hw') (fun K hK => ?_); go_simp; refine hK _ ?_; clear hK K
        refine NB.t_e 16 rfl (by kernel_rfl) (by kernel_rfl) (fun K hK => ?_); unfold NB.tmoves; go_simp; refine ctl.mono ?_; rintro e w3 ⟨a3, c3, rfl, ho3, hb3⟩; refine ⟨_, rfl, hb3, hK _ _ ?_⟩; clear hK K
        have K3 := K2.keep (H := fun _ => False) (Kp.of_below hb3) (fun k h => h.elim)
        have RX3 := RX2.below hb3
        have hll : (blkL S.epoch (S.l.length + 1) k many (piece b k)).length = 64 := blkL_len _ _ _ _ _ hple
        generalize hX : blkL S.epoch (S.l.length + 1) k many (piece b k) = X at *
        have HX := Go.Lib.hid hX; clear hX
        have hof : Off Gi w3 a3 X.length c3 X := Off.fresh ho3 (fun k hk => (K2.d.foot k hk).2)
        rw [hll] at hof
        clear K2 RX2 c0 c1 c5 ho3 hb3
        refine NB.t_w 17 rfl (by kernel_rfl) (by kernel_rfl) rfl (fun Q' hK => ?_)
        go_wp2_with (go_at_call 59; refine (dwrite_any w3 _ p Gi Di _ _ _ _ _ K3.d hof (by omega)).mono ?_; rw [hwr]; rintro e w4 ⟨rfl, G4, hD4, hS4⟩)
        refine NB.t_p 18 rfl (by kernel_rfl) (fun K hK => ?_); go_simp; refine hK _ ?_; clear hK K
        refine NB.t_end (by kernel_rfl) ?_
        have hxr : IntKind.i64.wrap ((k : Int) + 1) = (k : Int) + 1 := IntWalk.i64_in _ ⟨by omega, by omega⟩
        have hwr' := HWR.out
        clear HWR
        by_cases hx0 : x = 0
        · subst hx0
          have K4 := K3.wrote hD4 hS4 hlt (by rw [HX.out]; exact hwr')
          have RX4 := RX3.keep hS4.kp (fun hg => (K3.nx _ hg).1 rfl)
          clear K3 RX3 hD4 hS4 hwr' hwr
          go_wp2_with fail
          go_roundw
          case rel => exact ⟨k + 1, D', G4, _, _, by go_num, by omega, K4, RX4⟩
          case measure => simp [intOf]; omega
        · have hxb : (x == 0) = false := by simpa using hx0
          have hq := K3.failed hlt hx0 (by rw [HX.out]; exact hwr')
          have s4 := K3.s.keep hS4.kp K3.dis
          have c8 := s4.cellv 8 _ rfl
          have f8 := s4.free 8
          obtain ⟨h5, hk5⟩ := s4.field 8 (.int .i64 x) { S with e := x } rfl rfl s4.frm s4.n s4.used s4.len s4.epoch s4.sure s4.gone
          have hdid := app_fail K3 hD4 hS4 h5 hk5
          have HDID := Go.Lib.hid hdid
          clear K3 RX3 hD4 hS4 hwr' hwr h5 hk5 hdid s4
          go_wp2_with fail
          go_ret2
          rw [HQ.out, hq, if_pos hx0]
          exact ⟨rfl, HDID.out⟩
      · obtain rfl : many = k := by omega
        have hq : wrM S b many many 0 D = (Di, 0) := by rw [← K.run, Nat.sub_self]; rfl
        have hki : ¬ (many : Int) < 1 := by have := HM1.out; omega -- by omega
        have HQ2 : appM D S b = (Di, { S with l := S.l ++ [b], used := S.used + many }, S.l.length, 0) := by rw [HQ.out, hq, if_neg (by simp)]
        have HQ3 := Go.Lib.hid HQ2
        clear RX hq HQ HQ2
        go_wp2_with fail
        refine NB.wp_region_q [9, 18, 21] 9 (fun w' => w'.cell? ⟨q, 5, none⟩ = some (.int .i64 (S.used : Int))) (by kernel_rfl) ?_
        have K5 := K.keep (H := fun _ => False) (Kp.of_below (dB wr)) (fun k h => h.elim)
        clear K
        generalize wr.drew = v3 at *
        have c4 := K5.s.cellv 4 _ rfl
        have c5 := K5.s.cellv 5 _ rfl
        have hst5 : ∀ x y : World, x.cell? ⟨q, 5, none⟩ = some (.int .i64 (S.used : Int)) → Below x.heap.size x y → y.cell? ⟨q, 5, none⟩ = some (.int .i64 (S.used : Int)) := fun x y hx hy => (Below.cell hy (World.block_lt_of_cell? _ _ hx)).trans hx
        refine NB.q_p 0 rfl (by kernel_rfl) (fun K hK => ?_); go_simp; refine hK _ ?_; clear hK K
        refine NB.q_p 1 rfl (by kernel_rfl) (fun K hK => ?_); go_simp; refine hK _ ?_; clear hK K
        refine NB.q_p 2 rfl (by kernel_rfl) (fun K hK => ?_); go_simp; refine hK _ ?_; clear hK K
        refine NB.q_p 3 rfl (by kernel_rfl) (fun K hK => ?_); go_simp; refine hK _ ?_; clear hK K
        refine NB.q_p 4 rfl (by kernel_rfl) (fun K hK => ?_); go_simp; refine hK _ ?_; clear hK K
        refine NB.q_r 5 [9, 16, 17, 18, 19, 20, 21] rfl (by kernel_rfl) (by kernel_rfl) rfl _ (fun w' hw' => NB.run_op_load rfl rfl Try.underlying44 rfl (c4) hw') (fun K hK => ?_); go_simp; refine hK _ ?_; clear hK K
        refine NB.q_p 6 rfl (by kernel_rfl) (fun K hK => ?_); go_simp; refine hK _ ?_; clear hK K
        refine NB.q_p 10 rfl (by kernel_rfl) (fun K hK => ?_); go_simp; refine hK _ ?_; clear hK K
        refine NB.q_p 11 rfl (by kernel_rfl) (fun K hK => ?_); go_simp; refine hK _ ?_; clear hK K
        refine NB.q_p 12 rfl (by kernel_rfl) (fun K hK => ?_); go_simp; refine hK _ ?_; clear hK K
        refine NB.q_a 13 [15, 16, 17, 18, 19, 20, 21] rfl (by kernel_rfl) (by kernel_rfl) rfl _ (fun w' => w'.cell? ⟨q, 5, none⟩ = some (.int .i64 (S.used : Int))) (fun x h => h) (c5) (hst5) (fun w' hw' => NB.run_op_load rfl rfl Try.underlying3 rfl hw' (Below.refl _ w')) (fun K hK => ?_); go_simp; refine hK _ ?_; clear hK K
        refine NB.q_p 14 rfl (by kernel_rfl) (fun K hK => ?_); go_simp; refine hK _ ?_; clear hK K
        refine NB.q_p 15 rfl (by kernel_rfl) (fun K hK => ?_); go_simp; refine hK _ ?_; clear hK K
        refine NB.q_e 7 rfl (by kernel_rfl) (by kernel_rfl) (fun K hK => ?_); unfold NB.tmoves; go_simp; refine (clone_any v3 _ _ _ b K5.off.rd (by omega)).mono ?_; rintro e v4 ⟨a', c', rfl, ho4, hb4⟩; refine ⟨_, rfl, hb4, hK _ _ ?_⟩; clear hK K
        have K4 := K5.keep (H := fun _ => False) (Kp.of_below hb4) (fun k h => h.elim)
        have J4 := K4.s
        obtain ⟨_, _, e9, hr4, hge4, _⟩ := NB.rd_of_own ho4
        cases e9
        have hbs4 : base ≤ v4.heap.size := by have := J4.ge; have := J4.row.lt; omega
        have hft5 := K5.s.foot
        have hnew4 : ∀ b' o', a' = some ⟨b', o', none⟩ → v3.heap.size ≤ b' := fun b' o' ha => (hge4 b' o' ha).1
        have hlo4 : ∀ b' o', a' = some ⟨b', o', none⟩ → b ≠ [] → base ≤ b' ∧ b' ≠ q ∧ (Value.slice a0 S.l.length c0).ownBlock ≠ some b' := fun b' o' ha _ => by have h5 := hnew4 b' o' ha; have h6 := hft5 q (.inl rfl); refine ⟨by omega, by omega, fun e => ?_⟩; have h7 := hft5 b' (.inr (.inl e)); omega
        have HK5 := Go.Lib.hid K5
        clear K5 ho4 hge4 hst5
        refine NB.q_e 8 rfl (by kernel_rfl) (by kernel_rfl) (fun K hK => ?_); unfold NB.tmoves; go_simp; refine ⟨(Below.refl _ _).alloc (Nat.le_refl _) _, hK _ _ ?_⟩; clear hK K
        refine NB.q_w 9 rfl (by kernel_rfl) (by kernel_rfl) rfl (fun Q' hK => ?_)
        have own5 := NB.own_keep J4.own (oneB v4 (.cells #[.slice a' 0 c'] 22))
        refine NB.wpList_append_at rfl (.tmp 99) (.tmp 102) 44 rfl base slTL _ its.length (itV its) rfl own5 _ 1 1 [.slice a' 0 c'] rfl (NB.rd_new v4 #[.slice a' 0 c'] 22 1 rfl (by unfold maxLen; omega) rfl) (by simp [Value.oneCell']) (by omega) (by unfold maxLen; omega) (by have := hbs4; simp; omega) ?_
        intro v' w' ho hgr hvb
        have ho2 : w'.ownsRow base 22 1 v' (its.length + 1) (itV its ++ [.slice a' b.length c']) := by rw [hsz]; exact ho
        have happ := J4.app (x := ⟨a', c', b⟩) (n := many) hgr ho2 hvb hr4 hlo4 (by omega) (by omega)
        have hkA : Kp (fun k => (Value.slice a0 S.l.length c0).ownBlock = some k) v4 w' := ((Kp.refl _ v4).alloc _).grown hgr (fun k h => .inl h)
        have row5 := J4.row.keep hkA J4.qo
        have d5 := row5.cell 5 _ rfl
        obtain ⟨a9, c9, rfl, _⟩ := NB.rd_of_own ho
        rw [hits] at happ hvb
        have hcu : ((S.used + many : Nat) : Int) = (S.used : Int) + (many : Int) := by omega
        simp only [hcu] at happ
        have d4 := row5.cell 4 _ rfl
        have f4 := row5.free 4
        have e5 := (row5.set 4 (.slice a9 (S.l.length + 1) c9)).cell 5 _ rfl
        have g5 := (row5.set 4 (.slice a9 (S.l.length + 1) c9)).free 5
        have HAPP := Go.Lib.hid happ
        have HVB := Go.Lib.hid hvb
        refine hK _ _ ⟨fun _ => d5, ?_⟩
        clear hK Q' happ own5 row5 hkA ho ho2 hgr hvb
        refine NB.q_p 16 rfl (by kernel_rfl) (fun K hK => ?_); go_simp; refine hK _ ?_; clear hK K
        refine NB.q_p 17 rfl (by kernel_rfl) (fun K hK => ?_); go_simp; refine hK _ ?_; clear hK K
        refine NB.q_w 18 rfl (by kernel_rfl) (by kernel_rfl) rfl (fun Q' hK => ?_)
        go_wp2_with fail; first | refine ⟨fun h => (by cases h), ?_⟩ | skip
        refine NB.q_p 19 rfl (by kernel_rfl) (fun K hK => ?_); go_simp; refine hK _ ?_; clear hK K
        refine NB.q_p 20 rfl (by kernel_rfl) (fun K hK => ?_); go_simp; refine hK _ ?_; clear hK K
        refine NB.q_w 21 rfl (by kernel_rfl) (by kernel_rfl) rfl (fun Q' hK => ?_)
        go_wp2_with fail; first | refine ⟨fun h => (by cases h), ?_⟩ | skip
        refine NB.q_end (by kernel_rfl) ?_
        obtain ⟨J1, J2⟩ := HAPP.out
        have hdid := app_done HK5.out hb4 J2 J1 (fun k e => (HVB.out k e).imp id (fun h => by simp at h; omega)) hnew4
        have HDID := Go.Lib.hid hdid
        have n4 := J1.cellv 4 _ rfl
        have hl1 : (S.l ++ [b]).length = S.l.length + 1 := by simp
        have hwz : IntKind.i64.wrap ((S.l.length : Int) + 1 - 1) = (S.l.length : Int) := by rw [IntWalk.i64_in _ ⟨by omega, by omega⟩]; omega
        clear hdid J1 J2 HAPP HK5
        go_wp2_with fail
        go_ret2
        rw [HQ3.out]
        exact ⟨rfl, HDID.out⟩
  · have hni0 : ¬ (n : Int) = 0 := by omega
    have hnb0 : ((n : Int) == 0) = false := by simpa using hni0
    go_wp2_with (first
      | (go_at_call 58; refine (chunk_any _ _ _ _).mono ?_; rintro e w' ⟨rfl, e2⟩; subst w'))
    go_at_call 57
    refine ctc.mono ?_
    rintro e w5 ⟨pv, k, rfl, hpo, hk1, hk2, hb5⟩
    have hkm : many = k := by omega
    clear hk1 hk2
    subst hkm
    have hbt : Below w3.heap.size w3 w5 := NB.bel (NB.twoB w3 _ _) hb5 (by simp; omega)
    have s5 := s3.below hbt
    have d5 := d3.below hbt
    have o5 := o3.below hbt
    have B5 := NB.bel B3 hbt B3.size
    have RX0 := rowX.below hbt
    obtain ⟨pa, pc, rfl, rd5, hlo5, _⟩ := NB.rd_of_own hpo
    obtain ⟨pg, po, rfl, _⟩ := NB.Rd.pos rd5 (by omega)
    obtain ⟨hpgl, hpg2⟩ := hlo5 pg po rfl
    have hpg1 : w3.heap.size ≤ pg := Nat.le_trans (by simp; omega) hpgl
    have hsz3 := B3.size
    have hps : ∀ (w' : World) (i : Nat) (x : Itm), NB.RdB w' a n c b → (pcs a b many)[i]? = some x → x.b = piece b i ∧ NB.RdB w' x.a x.b.length x.c x.b := fun w' i x hr hx => ⟨pcs_b hx, pcs_rd hr many (by omega) x (List.mem_of_getElem? hx)⟩
    have hpsl := pcs_len a b many
    have K0 : AppK w base q based p F G (.slice a0 S.l.length c0) its S D xb pg po many pc (pcs a b many) a n c b 0 w5 D G :=
      ⟨s5, d5, hF ▸ hFG, fun j hk => by (have := (hG0 j hk).2; constructor <;> omega), ⟨hxb1, by omega, by omega, RX0.lt, hpg2⟩, fun j hk => (hlt0 j hk).2, hob.rd, o5, rd5, hF, Stp.of_below B5, rfl, Nat.le_add_right _ _⟩
    clear s3 d3 o3 B3 rowX hbt hb5 hpo s5 d5 o5 B5 rd5 hlo5 ctc hpgl
    generalize pcs a b many = ps at *
    go_wp2_with fail
    go_loopw [59] (fun i wr => ∃ (k : Nat) (Di : Dk) (Gi : Nat → Prop) (pt : Int) (u : Value), i = .int .i64 k ∧ k ≤ many ∧ AppK w base q based p F G (.slice a0 S.l.length c0) its S D xb pg po many pc ps a n c b k wr Di Gi ∧ Rw wr xb [.int .u64 (S.epoch : Int), .int .u64 ((S.l.length : Int) + 1), .int .i64 pt, .int .i64 (many : Int), u] 93) (fun i _ => many - (intOf i).toNat)
    case atStart => exact ⟨0, D, G, 0, _, rfl, by omega, K0, RX0⟩
    case round =>
      clear K0 RX0
      obtain ⟨k, Di, Gi, pt, u, rfl, hk, K, RX⟩ := hrel
      by_cases hlt : k < many
      · obtain ⟨it, hit⟩ : ∃ it, ps[k]? = some it := ⟨_, List.getElem?_eq_getElem (by omega)⟩
        obtain ⟨hib, _⟩ := hps wr k it K.off.rd hit
        obtain ⟨ia, ic, ib⟩ := it
        simp only at hib
        subst hib
        have hcp : wr.cell? ⟨pg, po + k, none⟩ = some (.slice ia (piece b k).length ic) := by simpa using K.rd.cell _ _ rfl k (.slice ia (piece b k).length ic) (by unfold itV; rw [List.getElem?_map, hit]; rfl)
        have x2 := RX.cell 2 _ rfl
        have g2 := RX.free 2
        have x4 := (RX.set 2 (.int .i64 (k : Int))).cell 4 _ rfl
        have g4 := (RX.set 2 (.int .i64 (k : Int))).free 4
        have KX := K.keep (((Kp.refl (fun k => k = xb) wr).setCell (x := ⟨xb, 2, none⟩) (.inl rfl) (.int .i64 (k : Int))).setCell (x := ⟨xb, 4, none⟩) (.inl rfl) (.slice ia (piece b k).length ic)) (fun k h => h)
        have RXn : Rw ((wr.setCell ⟨xb, 2, none⟩ (.int .i64 (k : Int))).setCell ⟨xb, 4, none⟩ (.slice ia (piece b k).length ic)) xb [.int .u64 (S.epoch : Int), .int .u64 ((S.l.length : Int) + 1), .int .i64 (k : Int), .int .i64 (many : Int), .slice ia (piece b k).length ic] 93 := (RX.set 2 (.int .i64 (k : Int))).set 4 (.slice ia (piece b k).length ic)
        have hw1 := i64_add (a := S.frm) (b := S.used) (by omega) (by omega)
        have hw2 : IntKind.i64.wrap ((S.frm : Int) + (S.used : Int) + (k : Int)) = (S.frm : Int) + (S.used : Int) + (k : Int) := IntWalk.i64_in _ ⟨by omega, by omega⟩
        obtain ⟨D', x, hwr⟩ : ∃ D' x, Di.write ((S.frm : Int) + (S.used : Int) + (k : Int)) (blkL S.epoch (S.l.length + 1) k many (piece b k)) = (D', x) := ⟨_, _, rfl⟩
        have hwr' : Di.write ((S.frm + S.used + k : Nat) : Int) (blkL S.epoch (S.l.length + 1) k many (piece b k)) = (D', x) := by
          rw [show ((S.frm + S.used + k : Nat) : Int) = (S.frm : Int) + (S.used : Int) + (k : Int) by omega]; exact hwr
        have HWR := Go.Lib.hid hwr'
        have HIT := Go.Lib.hid hit
        have HP := Go.Lib.hid hps
        have hwt := K.wt
        clear K RX hwr' hit
        have hki : (k : Int) < (many : Int) := by omega
        go_wp2_with fail
        refine NB.wp_region_t [17] (by kernel_rfl) ?_
        have K2 := KX.keep (H := fun _ => False) (Kp.of_below (dB _)) (fun k h => h.elim)
        have RX2 := RXn.below (dB _)
        clear KX RXn
        generalize ((wr.setCell ⟨xb, 2, none⟩ (.int .i64 (k : Int))).setCell ⟨xb, 4, none⟩ (.slice ia (piece b k).length ic)).drew = v2 at *
        obtain ⟨_, hrp⟩ := HP.out v2 k ⟨ia, ic, piece b k⟩ K2.off.rd HIT.out
        have hple := piece_len b k
        have ctl := slaid_any v2 S.epoch (S.l.length + 1) k many _ _ _ _ hrp hple (by omega) (by omega) (by omega) (by omega)
        unfold blkV at ctl
        rw [show ((S.l.length + 1 : Nat) : Int) = (S.l.length : Int) + 1 by omega] at ctl
        simp only [List.toArray] at ctl
        have c0 := K2.s.cellv 0 _ rfl
        have c1 := K2.s.cellv 1 _ rfl
        have c5 := K2.s.cellv 5 _ rfl
        refine NB.t_p 0 rfl (by kernel_rfl) (fun K hK => ?_); go_simp; refine hK _ ?_; clear hK K
        refine NB.t_p 1 rfl (by kernel_rfl) (fun K hK => ?_); go_simp; refine hK _ ?_; clear hK K
        refine NB.t_p 2 rfl (by kernel_rfl) (fun K hK => ?_); go_simp; refine hK _ ?_; clear hK K
        refine NB.t_r 3 [17, 18] rfl (by kernel_rfl) (by kernel_rfl) rfl _ (fun w' hw' => NB.run_op_load rfl rfl Try.underlying24 rfl (c0) hw') (fun K hK => ?_); go_simp; refine hK _ ?_; clear hK K
        refine NB.t_p 4 rfl (by kernel_rfl) (fun K hK => ?_); go_simp; refine hK _ ?_; clear hK K
        refine NB.t_p 5 rfl (by kernel_rfl) (fun K hK => ?_); go_simp; refine hK _ ?_; clear hK K
        refine NB.t_p 6 rfl (by kernel_rfl) (fun K hK => ?_); go_simp; refine hK _ ?_; clear hK K
        refine NB.t_r 7 [12, 14, 17, 18] rfl (by kernel_rfl) (by kernel_rfl) rfl _ (fun w' hw' => NB.run_op_load rfl rfl Try.underlying3 rfl (c1) hw') (fun K hK => ?_); go_simp; refine hK _ ?_; clear hK K
        refine NB.t_p 8 rfl (by kernel_rfl) (fun K hK => ?_); go_simp; refine hK _ ?_; clear hK K
        refine NB.t_p 9 rfl (by kernel_rfl) (fun K hK => ?_); go_simp; refine hK _ ?_; clear hK K
        refine NB.t_p 10 rfl (by kernel_rfl) (fun K hK => ?_); go_simp; refine hK _ ?_; clear hK K
        refine NB.t_r 11 [12, 14, 17, 18] rfl (by kernel_rfl) (by kernel_rfl) rfl _ (fun w' hw' => NB.run_op_load rfl rfl Try.underlying3 rfl (c5) hw') (fun K hK => ?_); go_simp; refine hK _ ?_; clear hK K
        refine NB.t_p 12 rfl (by kernel_rfl) (fun K hK => ?_); go_simp; refine hK _ ?_; clear hK K
        refine NB.t_p 13 rfl (by kernel_rfl) (fun K hK => ?_); go_simp; refine hK _ ?_; clear hK K
        refine NB.t_p 14 rfl (by kernel_rfl) (fun K hK => ?_); go_simp; refine hK _ ?_; clear hK K
        refine NB.t_r 15 [16, 17, 18] rfl (by kernel_rfl) (by kernel_rfl) rfl _ (fun w' hw' => NB.run_op_load_agg rfl rfl Try.underlying93 rfl _ _ (0, 0) (RX2) (m := 5) (by kernel_rfl) (by simp) _ rfl hw') (fun K hK => ?_); go_simp; refine hK _ ?_; clear hK K
        refine NB.t_e 16 rfl (by kernel_rfl) (by kernel_rfl) (fun K hK => ?_); unfold NB.tmoves; go_simp; refine ctl.mono ?_; rintro e w3 ⟨a3, c3, rfl, ho3, hb3⟩; refine ⟨_, rfl, hb3, hK _ _ ?_⟩; clear hK K
        have K3 := K2.keep (H := fun _ => False) (Kp.of_below hb3) (fun k h => h.elim)
        have RX3 := RX2.below hb3
        have hll : (blkL S.epoch (S.l.length + 1) k many (piece b k)).length = 64 := blkL_len _ _ _ _ _ hple
        generalize hX : blkL S.epoch (S.l.length + 1) k many (piece b k) = X at *
        have HX := Go.Lib.hid hX; clear hX
        have hof : Off Gi w3 a3 X.length c3 X := Off.fresh ho3 (fun k hk => (K2.d.foot k hk).2)
        rw [hll] at hof
        clear K2 RX2 c0 c1 c5 ho3 hb3
        refine NB.t_w 17 rfl (by kernel_rfl) (by kernel_rfl) rfl (fun Q' hK => ?_)
        go_wp2_with (go_at_call 59; refine (dwrite_any w3 _ p Gi Di _ _ _ _ _ K3.d hof (by omega)).mono ?_; rw [hwr]; rintro e w4 ⟨rfl, G4, hD4, hS4⟩)
        refine NB.t_p 18 rfl (by kernel_rfl) (fun K hK => ?_); go_simp; refine hK _ ?_; clear hK K
        refine NB.t_end (by kernel_rfl) ?_
        have hxr : IntKind.i64.wrap ((k : Int) + 1) = (k : Int) + 1 := IntWalk.i64_in _ ⟨by omega, by omega⟩
        have hwr' := HWR.out
        clear HWR
        by_cases hx0 : x = 0
        · subst hx0
          have K4 := K3.wrote hD4 hS4 hlt (by rw [HX.out]; exact hwr')
          have RX4 := RX3.keep hS4.kp (fun hg => (K3.nx _ hg).1 rfl)
          clear K3 RX3 hD4 hS4 hwr' hwr
          go_wp2_with fail
          go_roundw
          case rel => exact ⟨k + 1, D', G4, _, _, by go_num, by omega, K4, RX4⟩
          case measure => simp [intOf]; omega
        · have hxb : (x == 0) = false := by simpa using hx0
          have hq := K3.failed hlt hx0 (by rw [HX.out]; exact hwr')
          have s4 := K3.s.keep hS4.kp K3.dis
          have c8 := s4.cellv 8 _ rfl
          have f8 := s4.free 8
          obtain ⟨h5, hk5⟩ := s4.field 8 (.int .i64 x) { S with e := x } rfl rfl s4.frm s4.n s4.used s4.len s4.epoch s4.sure s4.gone
          have hdid := app_fail K3 hD4 hS4 h5 hk5
          have HDID := Go.Lib.hid hdid
          clear K3 RX3 hD4 hS4 hwr' hwr h5 hk5 hdid s4
          go_wp2_with fail
          go_ret2
          rw [HQ.out, hq, if_pos hx0]
          exact ⟨rfl, HDID.out⟩
      · obtain rfl : many = k := by omega
        have hq : wrM S b many many 0 D = (Di, 0) := by rw [← K.run, Nat.sub_self]; rfl
        have hki : ¬ (many : Int) < (many : Int) := by omega
        have HQ2 : appM D S b = (Di, { S with l := S.l ++ [b], used := S.used + many }, S.l.length, 0) := by rw [HQ.out, hq, if_neg (by simp)]
        have HQ3 := Go.Lib.hid HQ2
        clear RX hq HQ HQ2
        go_wp2_with fail
        refine NB.wp_region_q [9, 18, 21] 9 (fun w' => w'.cell? ⟨q, 5, none⟩ = some (.int .i64 (S.used : Int))) (by kernel_rfl) ?_
        have K5 := K.keep (H := fun _ => False) (Kp.of_below (dB wr)) (fun k h => h.elim)
        clear K
        generalize wr.drew = v3 at *
        have c4 := K5.s.cellv 4 _ rfl
        have c5 := K5.s.cellv 5 _ rfl
        have hst5 : ∀ x y : World, x.cell? ⟨q, 5, none⟩ = some (.int .i64 (S.used : Int)) → Below x.heap.size x y → y.cell? ⟨q, 5, none⟩ = some (.int .i64 (S.used : Int)) := fun x y hx hy => (Below.cell hy (World.block_lt_of_cell? _ _ hx)).trans hx
        refine NB.q_p 0 rfl (by kernel_rfl) (fun K hK => ?_); go_simp; refine hK _ ?_; clear hK K
        refine NB.q_p 1 rfl (by kernel_rfl) (fun K hK => ?_); go_simp; refine hK _ ?_; clear hK K
        refine NB.q_p 2 rfl (by kernel_rfl) (fun K hK => ?_); go_simp; refine hK _ ?_; clear hK K
        refine NB.q_p 3 rfl (by kernel_rfl) (fun K hK => ?_); go_simp; refine hK _ ?_; clear hK K
        refine NB.q_p 4 rfl (by kernel_rfl) (fun K hK => ?_); go_simp; refine hK _ ?_; clear hK K
        refine NB.q_r 5 [9, 16, 17, 18, 19, 20, 21] rfl (by kernel_rfl) (by kernel_rfl) rfl _ (fun w' hw' => NB.run_op_load rfl rfl Try.underlying44 rfl (c4) hw') (fun K hK => ?_); go_simp; refine hK _ ?_; clear hK K
        refine NB.q_p 6 rfl (by kernel_rfl) (fun K hK => ?_); go_simp; refine hK _ ?_; clear hK K
        refine NB.q_p 10 rfl (by kernel_rfl) (fun K hK => ?_); go_simp; refine hK _ ?_; clear hK K
        refine NB.q_p 11 rfl (by kernel_rfl) (fun K hK => ?_); go_simp; refine hK _ ?_; clear hK K
        refine NB.q_p 12 rfl (by kernel_rfl) (fun K hK => ?_); go_simp; refine hK _ ?_; clear hK K
        refine NB.q_a 13 [15, 16, 17, 18, 19, 20, 21] rfl (by kernel_rfl) (by kernel_rfl) rfl _ (fun w' => w'.cell? ⟨q, 5, none⟩ = some (.int .i64 (S.used : Int))) (fun x h => h) (c5) (hst5) (fun w' hw' => NB.run_op_load rfl rfl Try.underlying3 rfl hw' (Below.refl _ w')) (fun K hK => ?_); go_simp; refine hK _ ?_; clear hK K
        refine NB.q_p 14 rfl (by kernel_rfl) (fun K hK => ?_); go_simp; refine hK _ ?_; clear hK K
        refine NB.q_p 15 rfl (by kernel_rfl) (fun K hK => ?_); go_simp; refine hK _ ?_; clear hK K
        refine NB.q_e 7 rfl (by kernel_rfl) (by kernel_rfl) (fun K hK => ?_); unfold NB.tmoves; go_simp; refine (clone_any v3 _ _ _ b K5.off.rd (by omega)).mono ?_; rintro e v4 ⟨a', c', rfl, ho4, hb4⟩; refine ⟨_, rfl, hb4, hK _ _ ?_⟩; clear hK K
        have K4 := K5.keep (H := fun _ => False) (Kp.of_below hb4) (fun k h => h.elim)
        have J4 := K4.s
        obtain ⟨_, _, e9, hr4, hge4, _⟩ := NB.rd_of_own ho4
        cases e9
        have hbs4 : base ≤ v4.heap.size := by have := J4.ge; have := J4.row.lt; omega
        have hft5 := K5.s.foot
        have hnew4 : ∀ b' o', a' = some ⟨b', o', none⟩ → v3.heap.size ≤ b' := fun b' o' ha => (hge4 b' o' ha).1
        have hlo4 : ∀ b' o', a' = some ⟨b', o', none⟩ → b ≠ [] → base ≤ b' ∧ b' ≠ q ∧ (Value.slice a0 S.l.length c0).ownBlock ≠ some b' := fun b' o' ha _ => by have h5 := hnew4 b' o' ha; have h6 := hft5 q (.inl rfl); refine ⟨by omega, by omega, fun e => ?_⟩; have h7 := hft5 b' (.inr (.inl e)); omega
        have HK5 := Go.Lib.hid K5
        clear K5 ho4 hge4 hst5
        refine NB.q_e 8 rfl (by kernel_rfl) (by kernel_rfl) (fun K hK => ?_); unfold NB.tmoves; go_simp; refine ⟨(Below.refl _ _).alloc (Nat.le_refl _) _, hK _ _ ?_⟩; clear hK K
        refine NB.q_w 9 rfl (by kernel_rfl) (by kernel_rfl) rfl (fun Q' hK => ?_)
        have own5 := NB.own_keep J4.own (oneB v4 (.cells #[.slice a' n c'] 22))
        refine NB.wpList_append_at rfl (.tmp 99) (.tmp 102) 44 rfl base slTL _ its.length (itV its) rfl own5 _ 1 1 [.slice a' n c'] rfl (NB.rd_new v4 #[.slice a' n c'] 22 1 rfl (by unfold maxLen; omega) rfl) (by simp [Value.oneCell']) (by omega) (by unfold maxLen; omega) (by have := hbs4; simp; omega) ?_
        intro v' w' ho hgr hvb
        have ho2 : w'.ownsRow base 22 1 v' (its.length + 1) (itV its ++ [.slice a' b.length c']) := by rw [hsz]; exact ho
        have happ := J4.app (x := ⟨a', c', b⟩) (n := many) hgr ho2 hvb hr4 hlo4 (by omega) (by omega)
        have hkA : Kp (fun k => (Value.slice a0 S.l.length c0).ownBlock = some k) v4 w' := ((Kp.refl _ v4).alloc _).grown hgr (fun k h => .inl h)
        have row5 := J4.row.keep hkA J4.qo
        have d5 := row5.cell 5 _ rfl
        obtain ⟨a9, c9, rfl, _⟩ := NB.rd_of_own ho
        rw [hits] at happ hvb
        have hcu : ((S.used + many : Nat) : Int) = (S.used : Int) + (many : Int) := by omega
        simp only [hcu] at happ
        have d4 := row5.cell 4 _ rfl
        have f4 := row5.free 4
        have e5 := (row5.set 4 (.slice a9 (S.l.length + 1) c9)).cell 5 _ rfl
        have g5 := (row5.set 4 (.slice a9 (S.l.length + 1) c9)).free 5
        have HAPP := Go.Lib.hid happ
        have HVB := Go.Lib.hid hvb
        refine hK _ _ ⟨fun _ => d5, ?_⟩
        clear hK Q' happ own5 row5 hkA ho ho2 hgr hvb
        refine NB.q_p 16 rfl (by kernel_rfl) (fun K hK => ?_); go_simp; refine hK _ ?_; clear hK K
        refine NB.q_p 17 rfl (by kernel_rfl) (fun K hK => ?_); go_simp; refine hK _ ?_; clear hK K
        refine NB.q_w 18 rfl (by kernel_rfl) (by kernel_rfl) rfl (fun Q' hK => ?_)
        go_wp2_with fail; first | refine ⟨fun h => (by cases h), ?_⟩ | skip
        refine NB.q_p 19 rfl (by kernel_rfl) (fun K hK => ?_); go_simp; refine hK _ ?_; clear hK K
        refine NB.q_p 20 rfl (by kernel_rfl) (fun K hK => ?_); go_simp; refine hK _ ?_; clear hK K
        refine NB.q_w 21 rfl (by kernel_rfl) (by kernel_rfl) rfl (fun Q' hK => ?_)
        go_wp2_with fail; first | refine ⟨fun h => (by cases h), ?_⟩ | skip
        refine NB.q_end (by kernel_rfl) ?_
        obtain ⟨J1, J2⟩ := HAPP.out
        have hdid := app_done HK5.out hb4 J2 J1 (fun k e => (HVB.out k e).imp id (fun h => by simp at h; omega)) hnew4
        have HDID := Go.Lib.hid hdid
        have n4 := J1.cellv 4 _ rfl
        have hl1 : (S.l ++ [b]).length = S.l.length + 1 := by simp
        have hwz : IntKind.i64.wrap ((S.l.length : Int) + 1 - 1) = (S.l.length : Int) := by rw [IntWalk.i64_in _ ⟨by omega, by omega⟩]; omega
        clear hdid J1 J2 HAPP HK5
        go_wp2_with fail
        go_ret2
        rw [HQ3.out]
        exact ⟨rfl, HDID.out⟩

end Go.Proofs.Ytjfidhjnbcmhfaa
