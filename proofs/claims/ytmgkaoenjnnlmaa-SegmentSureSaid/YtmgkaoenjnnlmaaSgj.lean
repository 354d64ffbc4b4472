/- slices.Collect, walked. A record is added to a segment: what memory holds. -/
import Derived.Test.YtmgkaoenjnnlmaaSgh
namespace Go.Proofs.Ytmgkaoenjnnlmaa
open Go.RowKit Go.Shelf
open Go.NB (Rd Dk Kp Stp Off Dis val oneB dB Rw MapI KeyI I64)

set_option maxHeartbeats 400000 in
theorem collect_any (w : World) (bs bn : Nat) (sa : Option Addr) (sn sc : Nat) (b : List UInt8) (hr : NB.RdB w sa sn sc b) (hsn : sn ≤ 1000000) (hbs : w.cell? ⟨bs, 0, none⟩ = some (.slice sa sn sc)) (hbn : w.cell? ⟨bn, 0, none⟩ = some (.int .i64 45)) :
    Calls Try.prog 38 #[.func (.func 64) #[] #[.pointer (some ⟨bs, 0, none⟩), .pointer (some ⟨bn, 0, none⟩)]] w (PcsE w sa b sn) := by
  have ct := appseq_any w bs bn sa sn sc b hr hsn hbs hbn
  go_enter Try.func38, Try.ntmps38
  go_wp2_with fail
  refine ct.mono ?_
  rintro e w' ⟨v, k, rfl, ho, h1, h2, hb⟩
  obtain ⟨a, c, rfl, _⟩ := NB.rd_of_own ho
  go_wp2_with fail
  go_ret
  exact ⟨_, k, rfl, ho, h1, h2, hb⟩

section
variable {w w' : World} {base q p : Nat} {v v' : Value} {its : List Itm} {S : Sg} {o : Obj} {x : Itm} {n : Nat}
theorem IsSg.app (h : IsSg w base q p v its S) (hg : (w.alloc o).grownBy w' v.ownBlock) (ho : w'.ownsRow base 23 1 v' (its.length + 1) (itV its ++ [.slice x.a x.b.length x.c])) (hvb : ∀ k, v'.ownBlock = some k → v.ownBlock = some k ∨ (w.alloc o).heap.size ≤ k)
    (hx : NB.RdB w x.a x.b.length x.c x.b) (hlo : ∀ b o, x.a = some ⟨b, o, none⟩ → x.b ≠ [] → base ≤ b ∧ b ≠ q ∧ v.ownBlock ≠ some b) (hn : S.used + n ≤ S.n) (h1 : 1 ≤ n) :
    IsSg ((w'.setCell ⟨q, 4, none⟩ v').setCell ⟨q, 5, none⟩ (.int .i64 ((S.used + n : Nat) : Int))) base q p v' (its ++ [x]) { S with l := S.l ++ [x.b], used := S.used + n }
    ∧ Kp (fun k => k = q ∨ v.ownBlock = some k) w ((w'.setCell ⟨q, 4, none⟩ v').setCell ⟨q, 5, none⟩ (.int .i64 ((S.used + n : Nat) : Int))) := by
  have hkA : Kp (fun k => v.ownBlock = some k) w w' := ((Kp.refl _ w).alloc o).grown hg (fun k h => .inl h)
  have hk : Kp (fun k => k = q ∨ v.ownBlock = some k) w ((w'.setCell ⟨q, 4, none⟩ v').setCell ⟨q, 5, none⟩ (.int .i64 ((S.used + n : Nat) : Int))) :=
    ((hkA.imp (fun k h => .inr h)).setCell (x := ⟨q, 4, none⟩) (.inl (.inl rfl)) _).setCell (x := ⟨q, 5, none⟩) (.inl (.inl rfl)) _
  have hk2 : Kp (fun k => k = q) w' ((w'.setCell ⟨q, 4, none⟩ v').setCell ⟨q, 5, none⟩ (.int .i64 ((S.used + n : Nat) : Int))) :=
    ((Kp.refl (fun k => k = q) w').setCell (x := ⟨q, 4, none⟩) (.inl rfl) _).setCell (x := ⟨q, 5, none⟩) (.inl rfl) _
  have hqlt := h.row.lt
  have hrow := ((h.row.keep hkA h.qo).set 4 v').set 5 (.int .i64 ((S.used + n : Nat) : Int))
  have hno : ∀ b, b < w.heap.size → v.ownBlock ≠ some b → v'.ownBlock ≠ some b := fun b hb hv e => by
    rcases hvb b e with h3 | h3
    · exact hv h3
    · simp at h3; omega
  refine ⟨{ row := hrow, own := ?_, rd := ?_, lo := ?_, l := ?_, ge := h.ge, qo := hno q hqlt h.qo, frm := h.frm, n := h.n, used := hn, len := ?_, epoch := h.epoch, sure := ?_, gone := h.gone }, hk⟩
  · have := hk2.own ho (fun k e hkq => by subst hkq; exact hno _ hqlt h.qo e)
    rw [List.length_append, List.length_singleton]
    have e : itV (its ++ [x]) = itV its ++ [.slice x.a x.b.length x.c] := by simp [itV]
    rw [e]
    exact this
  · intro y hy
    rcases List.mem_append.1 hy with hy | hy
    · refine hk.rdB (h.rd y hy) fun b o e hb => ?_
      obtain ⟨_, h4, h5⟩ := h.lo y hy b o e hb
      rintro (h6 | h6)
      · exact h4 h6
      · exact h5 h6
    · obtain rfl : y = x := by simpa using hy
      refine hk.rdB hx fun b o e hb => ?_
      obtain ⟨_, h4, h5⟩ := hlo b o e hb
      rintro (h6 | h6)
      · exact h4 h6
      · exact h5 h6
  · intro y hy b o e hb
    rcases List.mem_append.1 hy with hy | hy
    · obtain ⟨h3, h4, h5⟩ := h.lo y hy b o e hb
      exact ⟨h3, h4, hno b (Rd.lt (h.rd y hy) b o e (by intro e2; rw [List.map_eq_nil_iff] at e2; exact hb e2)) h5⟩
    · obtain rfl : y = x := by simpa using hy
      obtain ⟨h3, h4, h5⟩ := hlo b o e hb
      exact ⟨h3, h4, hno b (Rd.lt hx b o e (by intro e2; rw [List.map_eq_nil_iff] at e2; exact hb e2)) h5⟩
  · rw [List.map_append, h.l]; rfl
  · have := h.len; simp only [List.length_append, List.length_singleton]; omega
  · have := h.sure; simp only [List.length_append, List.length_singleton]; omega
end

/-- A record that is found: how long, and how many parts. -/
theorem gath_len {R : List (List UInt8)} {at_ : Nat} {f : Bk} : ∀ (n i : Nat) (b : List UInt8), gath R at_ f n i = some b → b.length ≤ 45 * n
  | 0, i, b, h => by simp only [gath, Option.some.injEq] at h; subst h; simp
  | n + 1, i, b, h => by
    unfold gath at h
    cases hx : lk R (at_ + i) with
    | none => rw [hx] at h; cases h
    | some x =>
      rw [hx] at h
      simp only at h
      split at h
      · cases h
      · split at h
        · cases h
        · cases hg : gath R at_ f n (i + 1) with
          | none => rw [hg] at h; cases h
          | some t =>
            rw [hg] at h
            simp only [Option.map_some, Option.some.injEq] at h
            subst h
            have h1 := gath_len n (i + 1) t hg
            have h2 := lk_len hx
            rw [List.length_append]
            omega
theorem openLoop_more (R : List (List UInt8)) (k : Nat) (l : List (List UInt8)) (u ep pn x : Nat) (b : List UInt8) (h : recordM R u l.length ep = some (b, pn, x)) : openLoop R (k + 1) l u ep = openLoop R k (l ++ [b]) (u + pn) x := by
  rw [openLoop, h]
theorem openLoop_last (R : List (List UInt8)) (k : Nat) (l : List (List UInt8)) (u ep : Nat) (h : recordM R u l.length ep = none) : openLoop R k l u ep = (l, u) := by
  cases k with
  | zero => rfl
  | succ k => rw [openLoop, h]
end Go.Proofs.Ytmgkaoenjnnlmaa
