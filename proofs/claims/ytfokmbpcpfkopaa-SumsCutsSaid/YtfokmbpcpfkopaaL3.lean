/- Proves the statement SumsCutsSaid: for every input the law SumsCuts returns true and leaves its arguments as they were. No condition. -/
import Derived.Test.YtfokmbpcpfkopaaT5
import Derived.Test.YtfokmbpcpfkopaaAny
import Derived.Test.YtfokmbpcpfkopaaOpen
namespace Go.Proofs.Ytfokmbpcpfkopaa
open Go.ChangeShapes Go.WideShapes Go.ChangeAt Go.RowKit
open Go.ChangeMaps (open_string shut_string)
open Go.NB.Crc
open Go.NB (Rd)

theorem rdB_tail {w : World} {a : Option Addr} {n c : Nat} {bs : List UInt8} (h : NB.RdB w a n c bs) (k : Nat) (hk : k ≤ n) :
    NB.RdB w (if c = k then a else a.map fun x => x.add k) (n - k) (c - k) (bs.drop k) := by
  have hs := NB.RdB.size h
  have hle := h.le
  refine ⟨by simp; omega, by omega, by have := h.max; omega, ?_, ?_, ?_⟩
  · intro e
    split at e
    · omega
    · cases a with
      | none => have := h.nil rfl; omega
      | some x => cases e
  · intro hc
    obtain ⟨b, o, rfl⟩ := h.adr (by omega)
    rw [if_neg (by omega)]
    exact ⟨b, o + k, by simp [NB.addr_add]⟩
  · intro b o e i v hi
    rw [List.map_drop, List.getElem?_drop] at hi
    split at e
    · have : k + i < (bs.map NB.u8v).length := (List.getElem?_eq_some_iff.1 hi).1
      simp at this; omega
    · cases a with
      | none => cases e
      | some x =>
        have hn : 0 < c := by
          have : k + i < (bs.map NB.u8v).length := (List.getElem?_eq_some_iff.1 hi).1
          simp at this; omega
        obtain ⟨b', o', e'⟩ := h.adr hn
        cases e'
        simp only [Option.map_some, NB.addr_add, Option.some.injEq, Addr.mk.injEq, and_true] at e
        obtain ⟨rfl, rfl⟩ := e
        rw [Nat.add_assoc]
        exact h.cell _ _ rfl _ _ hi

structure St (w0 w : World) (a a2 : Option Addr) (n c : Nat) (bs : List UInt8) (k : Nat) : Prop where
  b : Below w0.heap.size w0 w
  h : NB.RdB w a n c bs
  h1 : NB.RdB w a k c (bs.take k)
  h2 : NB.RdB w a2 (n - k) (c - k) (bs.drop k)
theorem St.next {w0 w w' : World} {a a2 : Option Addr} {n c : Nat} {bs : List UInt8} {k : Nat} (s : St w0 w a a2 n c bs k) (hb : Below w.heap.size w w') : St w0 w' a a2 n c bs k :=
  ⟨s.b.trans (hb.mono s.b.size), Rd.below s.h hb, Rd.below s.h1 hb, Rd.below s.h2 hb⟩
theorem sums_one (l : List (List UInt8)) (bs : List UInt8) (h : l.flatten = bs) : sumR l = sumR [bs] := by
  rw [sum_eq, sum_eq, h]; simp
theorem sums_none : sumR [] = 0 := by decide +kernel
theorem rdBB_none (w : World) : NB.RdBB w none 0 0 [] :=
  ⟨rfl, Nat.le_refl _, Nat.zero_le _, fun _ => rfl, fun h => absurd h (by omega), (fun b o e => nomatch e)⟩
theorem rdBB_three {w : World} {a : Option Addr} {n c : Nat} {bs : List UInt8} {t : TypeId} (h : NB.RdB w a n c bs) {g : Nat} (hg : g = w.heap.size) :
    NB.RdBB (w.alloc (.cells #[.slice none 0 0, .slice a n c, .slice none 0 0] t)) (some ⟨g, 0, none⟩) 3 3 [[], bs, []] := by
  subst hg
  exact ⟨rfl, Nat.le_refl _, by unfold maxLen; omega, (fun e => nomatch e), (fun _ => ⟨_, _, rfl⟩), fun b o e i hi => by
    cases e
    have hi' : i = 0 ∨ i = 1 ∨ i = 2 := by omega
    rcases hi' with rfl | rfl | rfl
    · exact ⟨none, 0, 0, by rw [Nat.zero_add, cell_of_row _ _ _ _ t (0, 0) (heap_alloc_new w _)]; rfl, Rd.nil_mk⟩
    · exact ⟨a, n, c, by rw [Nat.zero_add, cell_of_row _ _ _ _ t (0, 0) (heap_alloc_new w _)]; rfl, NB.Rd.alloc h _⟩
    · exact ⟨none, 0, 0, by rw [Nat.zero_add, cell_of_row _ _ _ _ t (0, 0) (heap_alloc_new w _)]; rfl, Rd.nil_mk⟩⟩

set_option maxHeartbeats 4000000 in
theorem law3 (w : World) (a : Option Addr) (n c : Nat) (bs : List UInt8) (at_ : Int) (h : NB.RdB w a n c bs) (ha : (Lit.int .u16 at_).wf = true) :
    Calls Try.prog 5 #[.slice a n c, .int .u16 at_] w fun e w' => e = .returned (.bool true) ∧ Below w.heap.size w w' := by
  obtain rfl : n = bs.length := (NB.RdB.size h).symm
  have hbd := Rd.bound h
  have ba := bounds_u16 ha
  obtain ⟨m, rfl⟩ := Int.eq_ofNat_of_zero_le ba.1
  by_cases h500 : bs.length ≤ 500
  · obtain ⟨k, hk⟩ : ∃ k, k = m % (bs.length + 1) := ⟨_, rfl⟩
    have hkl : k ≤ bs.length := by have := Nat.mod_lt m (show 0 < bs.length + 1 by omega); omega
    have hki : (m : Int) % ((bs.length : Int) + 1) = (k : Int) := by rw [hk]; rfl
    clear hk
    have hle := h.le
    have hkc : k ≤ c := by omega
    have s1 := sums_one [bs.take k, bs.drop k] bs (by simp)
    have s2 := sums_one [[], bs, []] bs (by simp)
    have s3 := sums_none
    go_enter Try.func5, Try.ntmps5
    go_wp2_with (first
      | (go_at_call 8; refine (awake_any _).mono ?_; rintro e w1 ⟨rfl, hb1⟩))
    refine NB.wp_region_m (by kernel_rfl) ?_
    obtain ⟨a2, ha2⟩ : ∃ a2, a2 = (if c = k then a else a.map fun x => x.add k) := ⟨_, rfl⟩
    have S : St w w1.drew a a2 bs.length c bs k := ⟨hb1.drew, Rd.below h hb1.drew, NB.rdB_cut (Rd.below h hb1.drew) k hkl, by rw [ha2]; exact rdB_tail (Rd.below h hb1.drew) k hkl⟩
    have HA := Go.Lib.hid ha2; clear ha2
    generalize w1.drew = v1 at *
    refine NB.any_p 0 rfl (by kernel_rfl) (fun K hK => ?_); go_simp; refine hK _ ?_; clear hK K
    refine NB.any_p 1 rfl (by kernel_rfl) (fun K hK => ?_); go_simp; refine hK _ ?_; clear hK K
    refine NB.any_p 2 rfl (by kernel_rfl) (fun K hK => ?_); go_simp; refine hK _ ?_; clear hK K
    refine NB.any_p 3 rfl (by kernel_rfl) (fun K hK => ?_); go_simp; refine hK _ ?_; clear hK K
    refine NB.any_p 4 rfl (by kernel_rfl) (fun K hK => ?_); go_simp; refine hK _ ?_; clear hK K
    refine NB.any_p 5 rfl (by kernel_rfl) (fun K hK => ?_); go_simp; refine hK _ ?_; clear hK K
    rw [← HA.out]
    refine NB.any_p 8 rfl (by kernel_rfl) (fun K hK => ?_); go_simp; refine hK _ ?_; clear hK K
    refine NB.any_e2 6 9 rfl rfl (by kernel_rfl) (fun K hK => ?_) (fun K hK => ?_)
    · unfold NB.moves; go_simp; refine ⟨(Below.refl _ _).alloc (Nat.le_refl _) _, hK _ _ ?_⟩; clear hK K
      generalize hv : World.alloc v1 _ = pv1
      have hb : Below v1.heap.size v1 pv1 := by rw [← hv]; exact (Below.refl _ _).alloc (Nat.le_refl _) _
      have pS1 := S.next hb
      have phA : NB.RdBB pv1 (some ⟨v1.heap.size, 0, none⟩) 2 2 [bs.take k, bs.drop k] := by rw [← hv]; exact NB.rdBB_two S.h1 S.h2 rfl
      clear hb hv
      refine NB.any_e2 7 9 rfl rfl (by kernel_rfl) (fun K hK => ?_) (fun K hK => ?_)
      · unfold NB.moves; go_simp; refine (of_any _ _ _ _ [bs.take k, bs.drop k] phA).mono ?_; rintro e pv2 ⟨rfl, hb⟩; refine ⟨_, rfl, hb, hK _ _ ?_⟩; clear hK K
        have pS2 := pS1.next hb
        clear hb
        refine NB.any_e 9 rfl (by kernel_rfl) (fun K hK => ?_)
        unfold NB.moves; go_simp; refine ⟨(Below.refl _ _).alloc (Nat.le_refl _) _, hK _ _ ?_⟩; clear hK K
        generalize hv : World.alloc pv2 _ = pv3
        have hb : Below pv2.heap.size pv2 pv3 := by rw [← hv]; exact (Below.refl _ _).alloc (Nat.le_refl _) _
        have pS3 := pS2.next hb
        have phB : NB.RdBB pv3 (some ⟨pv2.heap.size, 0, none⟩) 1 1 [bs] := by rw [← hv]; exact NB.rdBB_one 23 pS2.h rfl
        clear hb hv
        refine NB.any_e 10 rfl (by kernel_rfl) (fun K hK => ?_)
        unfold NB.moves; go_simp; refine (of_any _ _ _ _ [bs] phB).mono ?_; rintro e z ⟨rfl, hb⟩; refine ⟨_, rfl, hb, hK _ _ ?_⟩; clear hK K
        have Sz := pS3.next hb
        clear hb
        clear phA phB pS1 pS2 pS3
        refine NB.any_p 11 rfl (by kernel_rfl) (fun K hK => ?_); go_simp; refine hK _ ?_; clear hK K
        refine NB.any_p 12 rfl (by kernel_rfl) (fun K hK => ?_); go_simp; refine hK _ ?_; clear hK K
        refine NB.any_p 13 rfl (by kernel_rfl) (fun K hK => ?_); go_simp; refine hK _ ?_; clear hK K
        refine NB.any_p 16 rfl (by kernel_rfl) (fun K hK => ?_); go_simp; refine hK _ ?_; clear hK K
        refine NB.any_e2 14 17 rfl rfl (by kernel_rfl) (fun K hK => ?_) (fun K hK => ?_)
        · unfold NB.moves; go_simp; refine ⟨(Below.refl _ _).alloc (Nat.le_refl _) _, hK _ _ ?_⟩; clear hK K
          generalize hv : World.alloc z _ = qv1
          have hb : Below z.heap.size z qv1 := by rw [← hv]; exact (Below.refl _ _).alloc (Nat.le_refl _) _
          have qS1 := Sz.next hb
          have qhA : NB.RdBB qv1 (some ⟨z.heap.size, 0, none⟩) 3 3 [[], bs, []] := by rw [← hv]; exact rdBB_three Sz.h rfl
          clear hb hv
          refine NB.any_e2 15 17 rfl rfl (by kernel_rfl) (fun K hK => ?_) (fun K hK => ?_)
          · unfold NB.moves; go_simp; refine (of_any _ _ _ _ [[], bs, []] qhA).mono ?_; rintro e qv2 ⟨rfl, hb⟩; refine ⟨_, rfl, hb, hK _ _ ?_⟩; clear hK K
            have qS2 := qS1.next hb
            clear hb
            refine NB.any_e 17 rfl (by kernel_rfl) (fun K hK => ?_)
            unfold NB.moves; go_simp; refine ⟨(Below.refl _ _).alloc (Nat.le_refl _) _, hK _ _ ?_⟩; clear hK K
            generalize hv : World.alloc qv2 _ = qv3
            have hb : Below qv2.heap.size qv2 qv3 := by rw [← hv]; exact (Below.refl _ _).alloc (Nat.le_refl _) _
            have qS3 := qS2.next hb
            have qhB : NB.RdBB qv3 (some ⟨qv2.heap.size, 0, none⟩) 1 1 [bs] := by rw [← hv]; exact NB.rdBB_one 23 qS2.h rfl
            clear hb hv
            refine NB.any_e 18 rfl (by kernel_rfl) (fun K hK => ?_)
            unfold NB.moves; go_simp; refine (of_any _ _ _ _ [bs] qhB).mono ?_; rintro e y ⟨rfl, hb⟩; refine ⟨_, rfl, hb, hK _ _ ?_⟩; clear hK K
            have Sy := qS3.next hb
            clear hb
            clear qhA qhB qS1 qS2 qS3
            refine NB.any_p 19 rfl (by kernel_rfl) (fun K hK => ?_); go_simp; refine hK _ ?_; clear hK K
            refine NB.any_p 20 rfl (by kernel_rfl) (fun K hK => ?_); go_simp; refine hK _ ?_; clear hK K
            refine NB.any_p 21 rfl (by kernel_rfl) (fun K hK => ?_); go_simp; refine hK _ ?_; clear hK K
            refine NB.any_e 22 rfl (by kernel_rfl) (fun K hK => ?_)
            unfold NB.moves; go_simp; refine (of_any _ _ _ _ [] (rdBB_none _)).mono ?_; rintro e x ⟨rfl, hb⟩; refine ⟨_, rfl, hb, hK _ _ ?_⟩; clear hK K
            have Sx := Sy.next hb
            clear hb
            refine NB.any_p 23 rfl (by kernel_rfl) (fun K hK => ?_); go_simp; refine hK _ ?_; clear hK K
            refine NB.any_p 24 rfl (by kernel_rfl) (fun K hK => ?_); go_simp; refine hK _ ?_; clear hK K
            refine NB.any_p 25 rfl (by kernel_rfl) (fun K hK => ?_); go_simp; refine hK _ ?_; clear hK K
            refine NB.any_end (by kernel_rfl) ?_
            go_wp2
            go_ret
            exact ⟨rfl, Sx.b⟩
          · unfold NB.moves; go_simp; refine ⟨(Below.refl _ _).alloc (Nat.le_refl _) _, hK _ _ ?_⟩; clear hK K
            generalize hv : World.alloc qv1 _ = qv2
            have hb : Below qv1.heap.size qv1 qv2 := by rw [← hv]; exact (Below.refl _ _).alloc (Nat.le_refl _) _
            have qS2 := qS1.next hb
            have qhB : NB.RdBB qv2 (some ⟨qv1.heap.size, 0, none⟩) 1 1 [bs] := by rw [← hv]; exact NB.rdBB_one 23 qS1.h rfl
            have qhA' := qhA.below hb
            clear hb hv
            refine NB.any_e 15 rfl (by kernel_rfl) (fun K hK => ?_)
            unfold NB.moves; go_simp; refine (of_any _ _ _ _ [[], bs, []] qhA').mono ?_; rintro e qv3 ⟨rfl, hb⟩; refine ⟨_, rfl, hb, hK _ _ ?_⟩; clear hK K
            have qS3 := qS2.next hb
            have qhB' := qhB.below hb
            clear hb
            refine NB.any_e 18 rfl (by kernel_rfl) (fun K hK => ?_)
            unfold NB.moves; go_simp; refine (of_any _ _ _ _ [bs] qhB').mono ?_; rintro e y ⟨rfl, hb⟩; refine ⟨_, rfl, hb, hK _ _ ?_⟩; clear hK K
            have Sy := qS3.next hb
            clear hb
            clear qhA qhB qhA' qhB' qS1 qS2 qS3
            refine NB.any_p 19 rfl (by kernel_rfl) (fun K hK => ?_); go_simp; refine hK _ ?_; clear hK K
            refine NB.any_p 20 rfl (by kernel_rfl) (fun K hK => ?_); go_simp; refine hK _ ?_; clear hK K
            refine NB.any_p 21 rfl (by kernel_rfl) (fun K hK => ?_); go_simp; refine hK _ ?_; clear hK K
            refine NB.any_e 22 rfl (by kernel_rfl) (fun K hK => ?_)
            unfold NB.moves; go_simp; refine (of_any _ _ _ _ [] (rdBB_none _)).mono ?_; rintro e x ⟨rfl, hb⟩; refine ⟨_, rfl, hb, hK _ _ ?_⟩; clear hK K
            have Sx := Sy.next hb
            clear hb
            refine NB.any_p 23 rfl (by kernel_rfl) (fun K hK => ?_); go_simp; refine hK _ ?_; clear hK K
            refine NB.any_p 24 rfl (by kernel_rfl) (fun K hK => ?_); go_simp; refine hK _ ?_; clear hK K
            refine NB.any_p 25 rfl (by kernel_rfl) (fun K hK => ?_); go_simp; refine hK _ ?_; clear hK K
            refine NB.any_end (by kernel_rfl) ?_
            go_wp2
            go_ret
            exact ⟨rfl, Sx.b⟩
        · unfold NB.moves; go_simp; refine ⟨(Below.refl _ _).alloc (Nat.le_refl _) _, hK _ _ ?_⟩; clear hK K
          generalize hv : World.alloc z _ = qv1
          have hb : Below z.heap.size z qv1 := by rw [← hv]; exact (Below.refl _ _).alloc (Nat.le_refl _) _
          have qS1 := Sz.next hb
          have qhB : NB.RdBB qv1 (some ⟨z.heap.size, 0, none⟩) 1 1 [bs] := by rw [← hv]; exact NB.rdBB_one 23 Sz.h rfl
          clear hb hv
          refine NB.any_e 14 rfl (by kernel_rfl) (fun K hK => ?_)
          unfold NB.moves; go_simp; refine ⟨(Below.refl _ _).alloc (Nat.le_refl _) _, hK _ _ ?_⟩; clear hK K
          generalize hv : World.alloc qv1 _ = qv2
          have hb : Below qv1.heap.size qv1 qv2 := by rw [← hv]; exact (Below.refl _ _).alloc (Nat.le_refl _) _
          have qS2 := qS1.next hb
          have qhA : NB.RdBB qv2 (some ⟨qv1.heap.size, 0, none⟩) 3 3 [[], bs, []] := by rw [← hv]; exact rdBB_three qS1.h rfl
          have qhB' := qhB.below hb
          clear hb hv
          refine NB.any_e 15 rfl (by kernel_rfl) (fun K hK => ?_)
          unfold NB.moves; go_simp; refine (of_any _ _ _ _ [[], bs, []] qhA).mono ?_; rintro e qv3 ⟨rfl, hb⟩; refine ⟨_, rfl, hb, hK _ _ ?_⟩; clear hK K
          have qS3 := qS2.next hb
          have qhB'' := qhB'.below hb
          clear hb
          refine NB.any_e 18 rfl (by kernel_rfl) (fun K hK => ?_)
          unfold NB.moves; go_simp; refine (of_any _ _ _ _ [bs] qhB'').mono ?_; rintro e y ⟨rfl, hb⟩; refine ⟨_, rfl, hb, hK _ _ ?_⟩; clear hK K
          have Sy := qS3.next hb
          clear hb
          clear qhA qhB qhB' qhB'' qS1 qS2 qS3
          refine NB.any_p 19 rfl (by kernel_rfl) (fun K hK => ?_); go_simp; refine hK _ ?_; clear hK K
          refine NB.any_p 20 rfl (by kernel_rfl) (fun K hK => ?_); go_simp; refine hK _ ?_; clear hK K
          refine NB.any_p 21 rfl (by kernel_rfl) (fun K hK => ?_); go_simp; refine hK _ ?_; clear hK K
          refine NB.any_e 22 rfl (by kernel_rfl) (fun K hK => ?_)
          unfold NB.moves; go_simp; refine (of_any _ _ _ _ [] (rdBB_none _)).mono ?_; rintro e x ⟨rfl, hb⟩; refine ⟨_, rfl, hb, hK _ _ ?_⟩; clear hK K
          have Sx := Sy.next hb
          clear hb
          refine NB.any_p 23 rfl (by kernel_rfl) (fun K hK => ?_); go_simp; refine hK _ ?_; clear hK K
          refine NB.any_p 24 rfl (by kernel_rfl) (fun K hK => ?_); go_simp; refine hK _ ?_; clear hK K
          refine NB.any_p 25 rfl (by kernel_rfl) (fun K hK => ?_); go_simp; refine hK _ ?_; clear hK K
          refine NB.any_end (by kernel_rfl) ?_
          go_wp2
          go_ret
          exact ⟨rfl, Sx.b⟩
      · unfold NB.moves; go_simp; refine ⟨(Below.refl _ _).alloc (Nat.le_refl _) _, hK _ _ ?_⟩; clear hK K
        generalize hv : World.alloc pv1 _ = pv2
        have hb : Below pv1.heap.size pv1 pv2 := by rw [← hv]; exact (Below.refl _ _).alloc (Nat.le_refl _) _
        have pS2 := pS1.next hb
        have phB : NB.RdBB pv2 (some ⟨pv1.heap.size, 0, none⟩) 1 1 [bs] := by rw [← hv]; exact NB.rdBB_one 23 pS1.h rfl
        have phA' := phA.below hb
        clear hb hv
        refine NB.any_e 7 rfl (by kernel_rfl) (fun K hK => ?_)
        unfold NB.moves; go_simp; refine (of_any _ _ _ _ [bs.take k, bs.drop k] phA').mono ?_; rintro e pv3 ⟨rfl, hb⟩; refine ⟨_, rfl, hb, hK _ _ ?_⟩; clear hK K
        have pS3 := pS2.next hb
        have phB' := phB.below hb
        clear hb
        refine NB.any_e 10 rfl (by kernel_rfl) (fun K hK => ?_)
        unfold NB.moves; go_simp; refine (of_any _ _ _ _ [bs] phB').mono ?_; rintro e z ⟨rfl, hb⟩; refine ⟨_, rfl, hb, hK _ _ ?_⟩; clear hK K
        have Sz := pS3.next hb
        clear hb
        clear phA phB phA' phB' pS1 pS2 pS3
        refine NB.any_p 11 rfl (by kernel_rfl) (fun K hK => ?_); go_simp; refine hK _ ?_; clear hK K
        refine NB.any_p 12 rfl (by kernel_rfl) (fun K hK => ?_); go_simp; refine hK _ ?_; clear hK K
        refine NB.any_p 13 rfl (by kernel_rfl) (fun K hK => ?_); go_simp; refine hK _ ?_; clear hK K
        refine NB.any_p 16 rfl (by kernel_rfl) (fun K hK => ?_); go_simp; refine hK _ ?_; clear hK K
        refine NB.any_e2 14 17 rfl rfl (by kernel_rfl) (fun K hK => ?_) (fun K hK => ?_)
        · unfold NB.moves; go_simp; refine ⟨(Below.refl _ _).alloc (Nat.le_refl _) _, hK _ _ ?_⟩; clear hK K
          generalize hv : World.alloc z _ = qv1
          have hb : Below z.heap.size z qv1 := by rw [← hv]; exact (Below.refl _ _).alloc (Nat.le_refl _) _
          have qS1 := Sz.next hb
          have qhA : NB.RdBB qv1 (some ⟨z.heap.size, 0, none⟩) 3 3 [[], bs, []] := by rw [← hv]; exact rdBB_three Sz.h rfl
          clear hb hv
          refine NB.any_e2 15 17 rfl rfl (by kernel_rfl) (fun K hK => ?_) (fun K hK => ?_)
          · unfold NB.moves; go_simp; refine (of_any _ _ _ _ [[], bs, []] qhA).mono ?_; rintro e qv2 ⟨rfl, hb⟩; refine ⟨_, rfl, hb, hK _ _ ?_⟩; clear hK K
            have qS2 := qS1.next hb
            clear hb
            refine NB.any_e 17 rfl (by kernel_rfl) (fun K hK => ?_)
            unfold NB.moves; go_simp; refine ⟨(Below.refl _ _).alloc (Nat.le_refl _) _, hK _ _ ?_⟩; clear hK K
            generalize hv : World.alloc qv2 _ = qv3
            have hb : Below qv2.heap.size qv2 qv3 := by rw [← hv]; exact (Below.refl _ _).alloc (Nat.le_refl _) _
            have qS3 := qS2.next hb
            have qhB : NB.RdBB qv3 (some ⟨qv2.heap.size, 0, none⟩) 1 1 [bs] := by rw [← hv]; exact NB.rdBB_one 23 qS2.h rfl
            clear hb hv
            refine NB.any_e 18 rfl (by kernel_rfl) (fun K hK => ?_)
            unfold NB.moves; go_simp; refine (of_any _ _ _ _ [bs] qhB).mono ?_; rintro e y ⟨rfl, hb⟩; refine ⟨_, rfl, hb, hK _ _ ?_⟩; clear hK K
            have Sy := qS3.next hb
            clear hb
            clear qhA qhB qS1 qS2 qS3
            refine NB.any_p 19 rfl (by kernel_rfl) (fun K hK => ?_); go_simp; refine hK _ ?_; clear hK K
            refine NB.any_p 20 rfl (by kernel_rfl) (fun K hK => ?_); go_simp; refine hK _ ?_; clear hK K
            refine NB.any_p 21 rfl (by kernel_rfl) (fun K hK => ?_); go_simp; refine hK _ ?_; clear hK K
            refine NB.any_e 22 rfl (by kernel_rfl) (fun K hK => ?_)
            unfold NB.moves; go_simp; refine (of_any _ _ _ _ [] (rdBB_none _)).mono ?_; rintro e x ⟨rfl, hb⟩; refine ⟨_, rfl, hb, hK _ _ ?_⟩; clear hK K
            have Sx := Sy.next hb
            clear hb
            refine NB.any_p 23 rfl (by kernel_rfl) (fun K hK => ?_); go_simp; refine hK _ ?_; clear hK K
            refine NB.any_p 24 rfl (by kernel_rfl) (fun K hK => ?_); go_simp; refine hK _ ?_; clear hK K
            refine NB.any_p 25 rfl (by kernel_rfl) (fun K hK => ?_); go_simp; refine hK _ ?_; clear hK K
            refine NB.any_end (by kernel_rfl) ?_
            go_wp2
            go_ret
            exact ⟨rfl, Sx.b⟩
          · unfold NB.moves; go_simp; refine ⟨(Below.refl _ _).alloc (Nat.le_refl _) _, hK _ _ ?_⟩; clear hK K
            generalize hv : World.alloc qv1 _ = qv2
            have hb : Below qv1.heap.size qv1 qv2 := by rw [← hv]; exact (Below.refl _ _).alloc (Nat.le_refl _) _
            have qS2 := qS1.next hb
            have qhB : NB.RdBB qv2 (some ⟨qv1.heap.size, 0, none⟩) 1 1 [bs] := by rw [← hv]; exact NB.rdBB_one 23 qS1.h rfl
            have qhA' := qhA.below hb
            clear hb hv
            refine NB.any_e 15 rfl (by kernel_rfl) (fun K hK => ?_)
            unfold NB.moves; go_simp; refine (of_any _ _ _ _ [[], bs, []] qhA').mono ?_; rintro e qv3 ⟨rfl, hb⟩; refine ⟨_, rfl, hb, hK _ _ ?_⟩; clear hK K
            have qS3 := qS2.next hb
            have qhB' := qhB.below hb
            clear hb
            refine NB.any_e 18 rfl (by kernel_rfl) (fun K hK => ?_)
            unfold NB.moves; go_simp; refine (of_any _ _ _ _ [bs] qhB').mono ?_; rintro e y ⟨rfl, hb⟩; refine ⟨_, rfl, hb, hK _ _ ?_⟩; clear hK K
            have Sy := qS3.next hb
            clear hb
            clear qhA qhB qhA' qhB' qS1 qS2 qS3
            refine NB.any_p 19 rfl (by kernel_rfl) (fun K hK => ?_); go_simp; refine hK _ ?_; clear hK K
            refine NB.any_p 20 rfl (by kernel_rfl) (fun K hK => ?_); go_simp; refine hK _ ?_; clear hK K
            refine NB.any_p 21 rfl (by kernel_rfl) (fun K hK => ?_); go_simp; refine hK _ ?_; clear hK K
            refine NB.any_e 22 rfl (by kernel_rfl) (fun K hK => ?_)
            unfold NB.moves; go_simp; refine (of_any _ _ _ _ [] (rdBB_none _)).mono ?_; rintro e x ⟨rfl, hb⟩; refine ⟨_, rfl, hb, hK _ _ ?_⟩; clear hK K
            have Sx := Sy.next hb
            clear hb
            refine NB.any_p 23 rfl (by kernel_rfl) (fun K hK => ?_); go_simp; refine hK _ ?_; clear hK K
            refine NB.any_p 24 rfl (by kernel_rfl) (fun K hK => ?_); go_simp; refine hK _ ?_; clear hK K
            refine NB.any_p 25 rfl (by kernel_rfl) (fun K hK => ?_); go_simp; refine hK _ ?_; clear hK K
            refine NB.any_end (by kernel_rfl) ?_
            go_wp2
            go_ret
            exact ⟨rfl, Sx.b⟩
        · unfold NB.moves; go_simp; refine ⟨(Below.refl _ _).alloc (Nat.le_refl _) _, hK _ _ ?_⟩; clear hK K
          generalize hv : World.alloc z _ = qv1
          have hb : Below z.heap.size z qv1 := by rw [← hv]; exact (Below.refl _ _).alloc (Nat.le_refl _) _
          have qS1 := Sz.next hb
          have qhB : NB.RdBB qv1 (some ⟨z.heap.size, 0, none⟩) 1 1 [bs] := by rw [← hv]; exact NB.rdBB_one 23 Sz.h rfl
          clear hb hv
          refine NB.any_e 14 rfl (by kernel_rfl) (fun K hK => ?_)
          unfold NB.moves; go_simp; refine ⟨(Below.refl _ _).alloc (Nat.le_refl _) _, hK _ _ ?_⟩; clear hK K
          generalize hv : World.alloc qv1 _ = qv2
          have hb : Below qv1.heap.size qv1 qv2 := by rw [← hv]; exact (Below.refl _ _).alloc (Nat.le_refl _) _
          have qS2 := qS1.next hb
          have qhA : NB.RdBB qv2 (some ⟨qv1.heap.size, 0, none⟩) 3 3 [[], bs, []] := by rw [← hv]; exact rdBB_three qS1.h rfl
          have qhB' := qhB.below hb
          clear hb hv
          refine NB.any_e 15 rfl (by kernel_rfl) (fun K hK => ?_)
          unfold NB.moves; go_simp; refine (of_any _ _ _ _ [[], bs, []] qhA).mono ?_; rintro e qv3 ⟨rfl, hb⟩; refine ⟨_, rfl, hb, hK _ _ ?_⟩; clear hK K
          have qS3 := qS2.next hb
          have qhB'' := qhB'.below hb
          clear hb
          refine NB.any_e 18 rfl (by kernel_rfl) (fun K hK => ?_)
          unfold NB.moves; go_simp; refine (of_any _ _ _ _ [bs] qhB'').mono ?_; rintro e y ⟨rfl, hb⟩; refine ⟨_, rfl, hb, hK _ _ ?_⟩; clear hK K
          have Sy := qS3.next hb
          clear hb
          clear qhA qhB qhB' qhB'' qS1 qS2 qS3
          refine NB.any_p 19 rfl (by kernel_rfl) (fun K hK => ?_); go_simp; refine hK _ ?_; clear hK K
          refine NB.any_p 20 rfl (by kernel_rfl) (fun K hK => ?_); go_simp; refine hK _ ?_; clear hK K
          refine NB.any_p 21 rfl (by kernel_rfl) (fun K hK => ?_); go_simp; refine hK _ ?_; clear hK K
          refine NB.any_e 22 rfl (by kernel_rfl) (fun K hK => ?_)
          unfold NB.moves; go_simp; refine (of_any _ _ _ _ [] (rdBB_none _)).mono ?_; rintro e x ⟨rfl, hb⟩; refine ⟨_, rfl, hb, hK _ _ ?_⟩; clear hK K
          have Sx := Sy.next hb
          clear hb
          refine NB.any_p 23 rfl (by kernel_rfl) (fun K hK => ?_); go_simp; refine hK _ ?_; clear hK K
          refine NB.any_p 24 rfl (by kernel_rfl) (fun K hK => ?_); go_simp; refine hK _ ?_; clear hK K
          refine NB.any_p 25 rfl (by kernel_rfl) (fun K hK => ?_); go_simp; refine hK _ ?_; clear hK K
          refine NB.any_end (by kernel_rfl) ?_
          go_wp2
          go_ret
          exact ⟨rfl, Sx.b⟩
    · unfold NB.moves; go_simp; refine ⟨(Below.refl _ _).alloc (Nat.le_refl _) _, hK _ _ ?_⟩; clear hK K
      generalize hv : World.alloc v1 _ = pv1
      have hb : Below v1.heap.size v1 pv1 := by rw [← hv]; exact (Below.refl _ _).alloc (Nat.le_refl _) _
      have pS1 := S.next hb
      have phB : NB.RdBB pv1 (some ⟨v1.heap.size, 0, none⟩) 1 1 [bs] := by rw [← hv]; exact NB.rdBB_one 23 S.h rfl
      clear hb hv
      refine NB.any_e 6 rfl (by kernel_rfl) (fun K hK => ?_)
      unfold NB.moves; go_simp; refine ⟨(Below.refl _ _).alloc (Nat.le_refl _) _, hK _ _ ?_⟩; clear hK K
      generalize hv : World.alloc pv1 _ = pv2
      have hb : Below pv1.heap.size pv1 pv2 := by rw [← hv]; exact (Below.refl _ _).alloc (Nat.le_refl _) _
      have pS2 := pS1.next hb
      have phA : NB.RdBB pv2 (some ⟨pv1.heap.size, 0, none⟩) 2 2 [bs.take k, bs.drop k] := by rw [← hv]; exact NB.rdBB_two pS1.h1 pS1.h2 rfl
      have phB' := phB.below hb
      clear hb hv
      refine NB.any_e 7 rfl (by kernel_rfl) (fun K hK => ?_)
      unfold NB.moves; go_simp; refine (of_any _ _ _ _ [bs.take k, bs.drop k] phA).mono ?_; rintro e pv3 ⟨rfl, hb⟩; refine ⟨_, rfl, hb, hK _ _ ?_⟩; clear hK K
      have pS3 := pS2.next hb
      have phB'' := phB'.below hb
      clear hb
      refine NB.any_e 10 rfl (by kernel_rfl) (fun K hK => ?_)
      unfold NB.moves; go_simp; refine (of_any _ _ _ _ [bs] phB'').mono ?_; rintro e z ⟨rfl, hb⟩; refine ⟨_, rfl, hb, hK _ _ ?_⟩; clear hK K
      have Sz := pS3.next hb
      clear hb
      clear phA phB phB' phB'' pS1 pS2 pS3
      refine NB.any_p 11 rfl (by kernel_rfl) (fun K hK => ?_); go_simp; refine hK _ ?_; clear hK K
      refine NB.any_p 12 rfl (by kernel_rfl) (fun K hK => ?_); go_simp; refine hK _ ?_; clear hK K
      refine NB.any_p 13 rfl (by kernel_rfl) (fun K hK => ?_); go_simp; refine hK _ ?_; clear hK K
      refine NB.any_p 16 rfl (by kernel_rfl) (fun K hK => ?_); go_simp; refine hK _ ?_; clear hK K
      refine NB.any_e2 14 17 rfl rfl (by kernel_rfl) (fun K hK => ?_) (fun K hK => ?_)
      · unfold NB.moves; go_simp; refine ⟨(Below.refl _ _).alloc (Nat.le_refl _) _, hK _ _ ?_⟩; clear hK K
        generalize hv : World.alloc z _ = qv1
        have hb : Below z.heap.size z qv1 := by rw [← hv]; exact (Below.refl _ _).alloc (Nat.le_refl _) _
        have qS1 := Sz.next hb
        have qhA : NB.RdBB qv1 (some ⟨z.heap.size, 0, none⟩) 3 3 [[], bs, []] := by rw [← hv]; exact rdBB_three Sz.h rfl
        clear hb hv
        refine NB.any_e2 15 17 rfl rfl (by kernel_rfl) (fun K hK => ?_) (fun K hK => ?_)
        · unfold NB.moves; go_simp; refine (of_any _ _ _ _ [[], bs, []] qhA).mono ?_; rintro e qv2 ⟨rfl, hb⟩; refine ⟨_, rfl, hb, hK _ _ ?_⟩; clear hK K
          have qS2 := qS1.next hb
          clear hb
          refine NB.any_e 17 rfl (by kernel_rfl) (fun K hK => ?_)
          unfold NB.moves; go_simp; refine ⟨(Below.refl _ _).alloc (Nat.le_refl _) _, hK _ _ ?_⟩; clear hK K
          generalize hv : World.alloc qv2 _ = qv3
          have hb : Below qv2.heap.size qv2 qv3 := by rw [← hv]; exact (Below.refl _ _).alloc (Nat.le_refl _) _
          have qS3 := qS2.next hb
          have qhB : NB.RdBB qv3 (some ⟨qv2.heap.size, 0, none⟩) 1 1 [bs] := by rw [← hv]; exact NB.rdBB_one 23 qS2.h rfl
          clear hb hv
          refine NB.any_e 18 rfl (by kernel_rfl) (fun K hK => ?_)
          unfold NB.moves; go_simp; refine (of_any _ _ _ _ [bs] qhB).mono ?_; rintro e y ⟨rfl, hb⟩; refine ⟨_, rfl, hb, hK _ _ ?_⟩; clear hK K
          have Sy := qS3.next hb
          clear hb
          clear qhA qhB qS1 qS2 qS3
          refine NB.any_p 19 rfl (by kernel_rfl) (fun K hK => ?_); go_simp; refine hK _ ?_; clear hK K
          refine NB.any_p 20 rfl (by kernel_rfl) (fun K hK => ?_); go_simp; refine hK _ ?_; clear hK K
          refine NB.any_p 21 rfl (by kernel_rfl) (fun K hK => ?_); go_simp; refine hK _ ?_; clear hK K
          refine NB.any_e 22 rfl (by kernel_rfl) (fun K hK => ?_)
          unfold NB.moves; go_simp; refine (of_any _ _ _ _ [] (rdBB_none _)).mono ?_; rintro e x ⟨rfl, hb⟩; refine ⟨_, rfl, hb, hK _ _ ?_⟩; clear hK K
          have Sx := Sy.next hb
          clear hb
          refine NB.any_p 23 rfl (by kernel_rfl) (fun K hK => ?_); go_simp; refine hK _ ?_; clear hK K
          refine NB.any_p 24 rfl (by kernel_rfl) (fun K hK => ?_); go_simp; refine hK _ ?_; clear hK K
          refine NB.any_p 25 rfl (by kernel_rfl) (fun K hK => ?_); go_simp; refine hK _ ?_; clear hK K
          refine NB.any_end (by kernel_rfl) ?_
          go_wp2
          go_ret
          exact ⟨rfl, Sx.b⟩
        · unfold NB.moves; go_simp; refine ⟨(Below.refl _ _).alloc (Nat.le_refl _) _, hK _ _ ?_⟩; clear hK K
          generalize hv : World.alloc qv1 _ = qv2
          have hb : Below qv1.heap.size qv1 qv2 := by rw [← hv]; exact (Below.refl _ _).alloc (Nat.le_refl _) _
          have qS2 := qS1.next hb
          have qhB : NB.RdBB qv2 (some ⟨qv1.heap.size, 0, none⟩) 1 1 [bs] := by rw [← hv]; exact NB.rdBB_one 23 qS1.h rfl
          have qhA' := qhA.below hb
          clear hb hv
          refine NB.any_e 15 rfl (by kernel_rfl) (fun K hK => ?_)
          unfold NB.moves; go_simp; refine (of_any _ _ _ _ [[], bs, []] qhA').mono ?_; rintro e qv3 ⟨rfl, hb⟩; refine ⟨_, rfl, hb, hK _ _ ?_⟩; clear hK K
          have qS3 := qS2.next hb
          have qhB' := qhB.below hb
          clear hb
          refine NB.any_e 18 rfl (by kernel_rfl) (fun K hK => ?_)
          unfold NB.moves; go_simp; refine (of_any _ _ _ _ [bs] qhB').mono ?_; rintro e y ⟨rfl, hb⟩; refine ⟨_, rfl, hb, hK _ _ ?_⟩; clear hK K
          have Sy := qS3.next hb
          clear hb
          clear qhA qhB qhA' qhB' qS1 qS2 qS3
          refine NB.any_p 19 rfl (by kernel_rfl) (fun K hK => ?_); go_simp; refine hK _ ?_; clear hK K
          refine NB.any_p 20 rfl (by kernel_rfl) (fun K hK => ?_); go_simp; refine hK _ ?_; clear hK K
          refine NB.any_p 21 rfl (by kernel_rfl) (fun K hK => ?_); go_simp; refine hK _ ?_; clear hK K
          refine NB.any_e 22 rfl (by kernel_rfl) (fun K hK => ?_)
          unfold NB.moves; go_simp; refine (of_any _ _ _ _ [] (rdBB_none _)).mono ?_; rintro e x ⟨rfl, hb⟩; refine ⟨_, rfl, hb, hK _ _ ?_⟩; clear hK K
          have Sx := Sy.next hb
          clear hb
          refine NB.any_p 23 rfl (by kernel_rfl) (fun K hK => ?_); go_simp; refine hK _ ?_; clear hK K
          refine NB.any_p 24 rfl (by kernel_rfl) (fun K hK => ?_); go_simp; refine hK _ ?_; clear hK K
          refine NB.any_p 25 rfl (by kernel_rfl) (fun K hK => ?_); go_simp; refine hK _ ?_; clear hK K
          refine NB.any_end (by kernel_rfl) ?_
          go_wp2
          go_ret
          exact ⟨rfl, Sx.b⟩
      · unfold NB.moves; go_simp; refine ⟨(Below.refl _ _).alloc (Nat.le_refl _) _, hK _ _ ?_⟩; clear hK K
        generalize hv : World.alloc z _ = qv1
        have hb : Below z.heap.size z qv1 := by rw [← hv]; exact (Below.refl _ _).alloc (Nat.le_refl _) _
        have qS1 := Sz.next hb
        have qhB : NB.RdBB qv1 (some ⟨z.heap.size, 0, none⟩) 1 1 [bs] := by rw [← hv]; exact NB.rdBB_one 23 Sz.h rfl
        clear hb hv
        refine NB.any_e 14 rfl (by kernel_rfl) (fun K hK => ?_)
        unfold NB.moves; go_simp; refine ⟨(Below.refl _ _).alloc (Nat.le_refl _) _, hK _ _ ?_⟩; clear hK K
        generalize hv : World.alloc qv1 _ = qv2
        have hb : Below qv1.heap.size qv1 qv2 := by rw [← hv]; exact (Below.refl _ _).alloc (Nat.le_refl _) _
        have qS2 := qS1.next hb
        have qhA : NB.RdBB qv2 (some ⟨qv1.heap.size, 0, none⟩) 3 3 [[], bs, []] := by rw [← hv]; exact rdBB_three qS1.h rfl
        have qhB' := qhB.below hb
        clear hb hv
        refine NB.any_e 15 rfl (by kernel_rfl) (fun K hK => ?_)
        unfold NB.moves; go_simp; refine (of_any _ _ _ _ [[], bs, []] qhA).mono ?_; rintro e qv3 ⟨rfl, hb⟩; refine ⟨_, rfl, hb, hK _ _ ?_⟩; clear hK K
        have qS3 := qS2.next hb
        have qhB'' := qhB'.below hb
        clear hb
        refine NB.any_e 18 rfl (by kernel_rfl) (fun K hK => ?_)
        unfold NB.moves; go_simp; refine (of_any _ _ _ _ [bs] qhB'').mono ?_; rintro e y ⟨rfl, hb⟩; refine ⟨_, rfl, hb, hK _ _ ?_⟩; clear hK K
        have Sy := qS3.next hb
        clear hb
        clear qhA qhB qhB' qhB'' qS1 qS2 qS3
        refine NB.any_p 19 rfl (by kernel_rfl) (fun K hK => ?_); go_simp; refine hK _ ?_; clear hK K
        refine NB.any_p 20 rfl (by kernel_rfl) (fun K hK => ?_); go_simp; refine hK _ ?_; clear hK K
        refine NB.any_p 21 rfl (by kernel_rfl) (fun K hK => ?_); go_simp; refine hK _ ?_; clear hK K
        refine NB.any_e 22 rfl (by kernel_rfl) (fun K hK => ?_)
        unfold NB.moves; go_simp; refine (of_any _ _ _ _ [] (rdBB_none _)).mono ?_; rintro e x ⟨rfl, hb⟩; refine ⟨_, rfl, hb, hK _ _ ?_⟩; clear hK K
        have Sx := Sy.next hb
        clear hb
        refine NB.any_p 23 rfl (by kernel_rfl) (fun K hK => ?_); go_simp; refine hK _ ?_; clear hK K
        refine NB.any_p 24 rfl (by kernel_rfl) (fun K hK => ?_); go_simp; refine hK _ ?_; clear hK K
        refine NB.any_p 25 rfl (by kernel_rfl) (fun K hK => ?_); go_simp; refine hK _ ?_; clear hK K
        refine NB.any_end (by kernel_rfl) ?_
        go_wp2
        go_ret
        exact ⟨rfl, Sx.b⟩
  · go_enter Try.func5, Try.ntmps5
    go_wp2_with (first
      | (go_at_call 8; refine (awake_any _).mono ?_; rintro e w1 ⟨rfl, hb1⟩))
    go_ret
    exact ⟨rfl, hb1⟩

theorem sumsCuts.own : ownKnob Try.prog.godebug = none := by kernel_rfl
theorem sumsCuts.laidOut : laidOutB Try.prog = true := by kernel_rfl
set_option maxRecDepth 100000 in
theorem sumsCuts.lifted (os : Os) (started : os.Started) (H : Type) (enc : TypeId × Value → H) :
    ReturnsInHanded {} Try.checked os 5 .any (Rows.sumsCutsSpec.pre6 enc Try.prog Try.f5 Rows.sumsCutsRow.domain false) (Rows.sumsCutsSpec.post enc Try.prog Try.f5 false true false false) := by
  have own := sumsCuts.own
  have laidOut := sumsCuts.laidOut
  refine returnsInHanded_of_change (C := Try.checked) own started (by kernel_rfl) Try.func5
    (ChangeSpec.witness6 (enc := enc) (C := Try.checked) false ⟨#[], #[.slice none 0 0, .int .u16 0], []⟩ 8 (by kernel_rfl) (by kernel_rfl) (by kernel_rfl) (by kernel_rfl)) ?_
  intro W base args ds gs before hval0 hW hcnd _
  have hval : ∀ (j : Nat) t v, Try.f5.params[j]? = some t → args[j]? = some v → Value.okWide Try.prog W .any base t v := hval0
  have hW' := hW
  obtain ⟨p, q, hA0, hV, rfl, hfz, hnd⟩ := hW
  have hA : DataW.TrodAll enc Try.prog W 0 (fun _ => true) true Try.f5.params.toList args.toList ds p := hA0
  rw [Try.params5] at hA hval
  obtain ⟨v0, vs0, d0, ds0, p0, q0, hargs, rfl, rfl, h0, r0⟩ := trodAll_cons hA
  obtain ⟨v1, vs1, d1, ds1, p1, q1, rfl, rfl, rfl, h1, r1⟩ := trodAll_cons r0
  obtain ⟨rfl, rfl, rfl⟩ := trodAll_nil r1
  obtain rfl : args = #[v0, v1] := by cases args; simp_all
  obtain ⟨rfl, rfl⟩ := trodVars_none hV
  obtain ⟨a0, n0, c0, rfl⟩ := okWide_slice Try.underlying23 (hval 0 23 v0 rfl rfl)
  have k0 := h0
  have lt0 : ∀ x ∈ p0, x.block < W.heap.size := by obtain ⟨m, hm⟩ := k0; exact DataW.trod_lt m _ _ _ hm
  obtain ⟨z0, w0⟩ := NB.open_B Try.underlying23 Try.underlying5 (by kernel_rfl) h0
  obtain ⟨i1, rfl, rfl, rfl, w1⟩ := open_int Try.underlying33 (hval 1 33 v1 rfl rfl) h1
  clear hA0 hval0
  refine (law3 W a0 n0 c0 z0 i1 w0 w1).mono fun e W' ⟨he, bel⟩ => ?_
  subst he
  exact ⟨_, rfl, _, _, _, [], _, [], hW', trodAll_mk1 (shut_bool Try.underlying4 _), (trodAll_cons_mk (Below.trod laidOut (by kernel_rfl) (of_decide_eq_true (by kernel_rfl)) k0 bel lt0) (trodAll_cons_mk (shut_int Try.underlying33 w1) trodAll_mk0)), rfl, bel.frame _, fun h => by cases h⟩

theorem sumsCuts_holds : Rows.SumsCutsSaid :=
  OpenClaim.holds_of_wide 5 Try.f5 rfl rfl rfl rfl rfl rfl rfl ⟨rfl, rfl, rfl, rfl, rfl⟩ rfl rfl rfl rfl rfl (by kernel_rfl) Try.func5 (by kernel_rfl)
    (of_decide_eq_true (by kernel_rfl)) (by unfold Func.isWrapper; first | (rw [if_pos (by decide +kernel)]; kernel_rfl) | (rw [if_neg (by decide +kernel)]; exact ⟨rfl, rfl⟩))
    (fun os started H enc _ => sumsCuts.lifted os started H enc)
#print axioms sumsCuts_holds
end Go.Proofs.Ytfokmbpcpfkopaa
