/- 'append': what the old slice reads behind it. No program in sight. -/
import Derived.Test.YtadgokegjmigoaaDoorTail
namespace Go.NB
open Go Go.RowKit
theorem append_old {P : Program} {w : World} (base : Nat) (t ty e : TypeId) (i : TypeInfo) (z : Value) (size bytes : Nat) (ht : P.underlying t = some (.slice e)) (hi : P.info? e = some i) (hz : i.zero = some z)
    (hsize : i.size = size) (hby : i.bytes = bytes)
    (v : Value) (n : Nat) (xs : List Value) (hown : w.ownsRow base e size v n xs)
    (a : Addr) (m c : Nat) (news : List Value) (hl : news.length = m * size) (hnews : ∀ j u, news[j]? = some u → w.cell? (a.add j) = some u) (h1 : ∀ u ∈ news, u.oneCell' = true)
    (h63 : n + m ≤ maxLen) (hbytes : (n + m) * bytes ≤ 140737488355328) {v' : Value} {w' : World}
    (hrun : (Builtin.append_ #[t, t] ty #[v, .slice (some a) m c]).run P w = .ok v' w') (h2 : w'.ownsRow base e size v' (n + m) (xs ++ news)) (a0 : Option Addr) (c0 : Nat) (hv : v = .slice a0 n c0) : Rd size w' a0 n c0 xs := by
  subst hsize
  subst hby
  have hsmall : n + m ≤ 9223372036854775807 := by simp only [maxLen] at h63; omega
  obtain ⟨a1, c1, e1, hrd, _⟩ := rd_of_own hown
  rw [hv] at e1
  cases e1
  rcases hown.2 with ⟨rfl, rfl⟩ | ⟨g, cap, cur, rfl, hbg, hg, hnc, hcm, hcs, htake⟩
  · cases hv
    obtain rfl : xs = [] := List.eq_nil_of_length_eq_zero (by simpa using hown.1)
    exact Rd.nil_mk
  · cases hv
    by_cases hroom : n + m ≤ c0
    · have hfit : n * i.size + news.length ≤ cur.size := by rw [hl, hcs, ← Nat.add_mul]; exact Nat.mul_le_mul_right _ hroom
      have hr := run_append_room (P := P) w t ty e i ht hi g n c0 cur hg a m c news hl hnews h1 hroom hfit
      rw [hr] at hrun
      cases hrun
      have hc := h2.cells (g := g) rfl
      refine ⟨hrd.len, hrd.le, hrd.max, (fun e => nomatch e), (fun _ => ⟨g, 0, rfl⟩), fun b o e j u hj => ?_⟩
      cases e
      have hlt : j < xs.length := (List.getElem?_eq_some_iff.1 hj).1
      have := hc j u (by rw [List.getElem?_append_left hlt]; exact hj)
      rw [addr_add] at this
      exact this
    · have holds : ∀ j u, xs[j]? = some u → w.cell? ((⟨g, 0, none⟩ : Addr).add j) = some u := hown.cells (g := g) rfl
      have hr := run_append_grow (P := P) w t ty e i z ht hi hz ⟨g, 0, none⟩ n c0 xs hown.1 holds a m c news hl hnews (by omega) (by omega) (growslice_fits (by omega) hbytes)
      rw [hr] at hrun
      cases hrun
      exact Rd.below hrd (((Below.refl _ w).drew).alloc (Nat.le_refl _) _)

/-- 'append' onto a row of the call's own, from a row that is there; where the new row lies, and that the old one reads as it did. -/
theorem wpList_append_old {P : Program} {w : World} {ops : Array Oper} {rest : List Oper} {o : Oper} {a : Act} {Q : Exit → Act → World → Prop} (hgd : Region.wanted o (yielded ops a.tmps) = true) (s x : Operand) (t : TypeId)
    (ho : o.op = .call { callee := .builtin .append, args := #[s, x], argTypes := #[t, t] })
    (base : Nat) {e : TypeId} {z : Value} {size bytes : Nat} (T : SlT P t e z size bytes)
    (v : Value) (n : Nat) (xs : List Value) (hs : a.eval s = v) (hown : w.ownsRow base e size v n xs)
    (x0 : Addr) (m c : Nat) (news : List Value) (hx : a.eval x = .slice (some x0) m c) (hr : Rd size w (some x0) m c news) (h1 : ∀ u ∈ news, u.oneCell' = true)
    (hbytes : (n + m) * bytes ≤ 140737488355328) (h63 : n + m ≤ maxLen) (hbase : base ≤ w.heap.size)
    (h : ∀ v' w', w'.ownsRow base e size v' (n + m) (xs ++ news) → w.grownBy w' v.ownBlock → (∀ k, v'.ownBlock = some k → v.ownBlock = some k ∨ w.heap.size ≤ k) → (∀ a0 c0, v = .slice a0 n c0 → Rd size w' a0 n c0 xs) → wpList P ops Q rest (a.put o.dst v') w') : wpList P ops Q (o :: rest) a w := by
  obtain ⟨i, hi, hz, hsz, hby⟩ := T.hi
  refine wpList_wanted hgd fun K hK => ?_
  have hnews : ∀ j u, news[j]? = some u → w.cell? (x0.add j) = some u := by
    intro j u hu
    have hn : 0 < m := by
      rcases Nat.eq_zero_or_pos m with e | e
      · subst e
        have : news = [] := List.eq_nil_of_length_eq_zero (by rw [hr.len]; simp)
        subst this; simp at hu
      · exact e
    obtain ⟨b, o', e, hc⟩ := hr.pos hn
    cases e
    rw [addr_add]
    exact hc j u hu
  obtain ⟨v', w', hrun, h2, h3, _⟩ := run_append_own (P := P) w base t o.type e i z size bytes T.ht hi hz hsz hby T.hz T.hp v n xs hown x0 m c news hr.len hnews h1 h63 hbytes hbase
  have h4 := append_block base t o.type e i z size bytes T.ht hi hz hsz hby v n xs hown x0 m c news hr.len hnews h1 h63 hbytes hrun
  have h5 := append_old base t o.type e i z size bytes T.ht hi hz hsz hby v n xs hown x0 m c news hr.len hnews h1 h63 hbytes hrun h2
  unfold Oper.wp execOp
  simp only [ho, resolve, invoke, builtin, Sem.run_bind, Sem.run_pure, Result.andThen_ok, List.map_toArray, List.map_cons, List.map_nil, hs, hx, hrun]
  exact hK _ _ (h v' w' h2 h3 h4 h5)
end Go.NB
