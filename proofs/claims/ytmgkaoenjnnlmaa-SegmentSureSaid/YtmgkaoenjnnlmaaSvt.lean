/- A row of strings that grows, and of which a front is taken with no room behind it. -/
import Derived.Test.YtmgkaoenjnnlmaaKp
import Derived.Test.YtmgkaoenjnnlmaaSlc
import Derived.Laws.Append
namespace Go.Proofs.Ytmgkaoenjnnlmaa
open Go.RowKit
open Go.NB (Rd Kp Stp Off Dis)

theorem slTS : NB.SlT Try.prog 32 9 (.string ⟨#[]⟩) 1 16 :=
  ⟨Try.underlying32, info_parts (by kernel_rfl), rfl, by omega⟩
def strL (b : List UInt8) : Value := .string ⟨b.toArray⟩
def strsL (l : List (List UInt8)) : List Value := l.map strL
theorem str_rd (w : World) (b : List UInt8) {g : Nat} (hg : g = w.heap.size) : Rd 1 (w.alloc (.cells #[.string ⟨b.toArray⟩] 9)) (some ⟨g, 0, none⟩) 1 1 [strL b] :=
  NB.rd_new w #[.string ⟨b.toArray⟩] 9 1 rfl (by unfold maxLen; omega) hg
theorem strs_one (l : List (List UInt8)) : ∀ u ∈ strsL l, u.oneCell' = true := by
  intro u hu
  simp only [strsL, List.mem_map] at hu
  obtain ⟨b, _, rfl⟩ := hu
  rfl
theorem str_one (b : List UInt8) : ∀ u ∈ [strL b], u.oneCell' = true := strs_one [b]
theorem strs_at (l : List (List UInt8)) (j : Nat) (h : j < l.length) : (strsL l)[j]? = some (strL (l.getD j [])) := by
  rw [strsL, List.getElem?_map, List.getD_eq_getElem?_getD, List.getElem?_eq_getElem h]; rfl

/-- 'append' onto a row with no room: it lies in new memory. -/
theorem run_append_tight {P : Program} {w : World} {base : Nat} {t ty e : TypeId} {z : Value} {size bytes : Nat} (T : NB.SlT P t e z size bytes) {b : Addr} {n cap : Nat} {xs : List Value} (hxs : xs.length = n * size) (hold : ∀ j u, xs[j]? = some u → w.cell? (b.add j) = some u)
    {a : Addr} {m c : Nat} {news : List Value} (hl : news.length = m * size) (hnews : ∀ j u, news[j]? = some u → w.cell? (a.add j) = some u) (hcap : cap < n + m) (h63 : n + m ≤ maxLen) (hbytes : (n + m) * bytes ≤ 140737488355328) (hbase : base ≤ w.heap.size) :
    ∃ k w', (Builtin.append_ #[t, t] ty #[.slice (some b) n cap, .slice (some a) m c]).run P w = .ok (.slice (some ⟨w.heap.size, 0, none⟩) (n + m) k) w' ∧ w'.ownsRow base e size (.slice (some ⟨w.heap.size, 0, none⟩) (n + m) k) (n + m) (xs ++ news) ∧ Below w.heap.size w w' := by
  obtain ⟨i, hi, hz, hsz, hby⟩ := T.hi
  have hm2 : n + m ≤ 9223372036854775807 := by simp only [maxLen] at h63; omega
  have hzs := T.hz
  subst hsz
  subst hby
  have hr := run_append_grow (P := P) w t ty e i z T.ht hi hz b n cap xs hxs hold a m c news hl hnews hcap (by omega) (growslice_fits hcap hbytes)
  refine ⟨_, _, hr, ⟨by rw [List.length_append, hxs, hl, Nat.add_mul], .inr ⟨w.heap.size, _, _, rfl, hbase, heap_alloc_new w.drew _, grownCap_ge w _ _ e, grownCap_le_maxLen w _ _ e h63, ?_, ?_⟩⟩, ?_⟩
  · have hge := grownCap_ge w (n + m) cap e
    simp only [Array.size_append, List.size_toArray, size_zeroCells, hxs, hl, hzs, ← Nat.add_mul]
    congr 1
    omega
  · simp only [Array.toList_append, List.append_assoc]
    rw [← List.append_assoc]
    exact List.take_left' (by rw [List.length_append, hxs, hl, Nat.add_mul])
  · exact ((Below.refl _ w).drew).alloc (Nat.le_refl _) _

/-- A row of strings: the call's own, or one with no room. -/
def RowS (w : World) (base : Nat) (v : Value) (N : Nat) (vs : List Value) : Prop :=
  w.ownsRow base 9 1 v N vs ∨ ∃ g, v = .slice (some ⟨g, 0, none⟩) N N ∧ base ≤ g ∧ g < w.heap.size ∧ Rd 1 w (some ⟨g, 0, none⟩) N N vs
section
variable {w w' : World} {base N : Nat} {v : Value} {vs : List Value}
theorem rowS_nil (w : World) (base : Nat) : RowS w base (.slice none 0 0) 0 [] := .inl (World.ownsRow_nil _ _ _ _)
theorem RowS.rd (h : RowS w base v N vs) : ∃ a c, v = .slice a N c ∧ Rd 1 w a N c vs := by
  rcases h with h | ⟨g, rfl, _, _, hr⟩
  · obtain ⟨a, c, e, hr, _⟩ := NB.rd_of_own h
    exact ⟨a, c, e, hr⟩
  · exact ⟨_, _, rfl, hr⟩
theorem RowS.lt (h : RowS w base v N vs) (k : Nat) (hk : v.ownBlock = some k) : base ≤ k ∧ k < w.heap.size := by
  rcases h with h | ⟨g, rfl, h1, h2, hr⟩
  · exact h.lt k hk
  · simp only [Value.ownBlock, Option.some.injEq] at hk
    subst hk
    exact ⟨h1, h2⟩
theorem RowS.keep {G : Nat → Prop} (h : RowS w base v N vs) (hk : Kp G w w') (hG : ∀ k, v.ownBlock = some k → ¬ G k) : RowS w' base v N vs := by
  rcases h with h | ⟨g, rfl, h1, h2, hr⟩
  · exact .inl (hk.own h hG)
  · exact .inr ⟨g, rfl, h1, Nat.lt_of_lt_of_le h2 hk.size, hk.rd hr fun b o e _ => by cases e; exact hG g rfl⟩
theorem RowS.below (h : RowS w base v N vs) (hb : Below w.heap.size w w') : RowS w' base v N vs := h.keep (G := fun _ => False) (Kp.of_below hb) (fun _ _ h => h)
/-- Its block, if it has cells. -/
theorem RowS.pos (h : RowS w base v N vs) (hN : 0 < N) : ∃ g c, v = .slice (some ⟨g, 0, none⟩) N c ∧ Rd 1 w (some ⟨g, 0, none⟩) N c vs ∧ base ≤ g ∧ g < w.heap.size := by
  rcases h with h | ⟨g, rfl, h1, h2, hr⟩
  · have h0 := h
    rcases h.2 with ⟨_, e⟩ | ⟨g, c, cur, rfl, hb, hg, _⟩
    · omega
    · obtain ⟨a1, c1, e1, hr, _⟩ := NB.rd_of_own h0
      cases e1
      exact ⟨g, c, rfl, hr, hb, (Array.getElem?_eq_some_iff.1 hg).1⟩
  · exact ⟨g, N, rfl, hr, h1, h2⟩
/-- A front with no room behind it. -/
theorem rowS_cut {g c : Nat} (hr : Rd 1 w (some ⟨g, 0, none⟩) N c vs) (hb : base ≤ g) (hg : g < w.heap.size) (j : Nat) (hj : j ≤ N) : RowS w base (.slice (some ⟨g, 0, none⟩) j j) j (vs.take j) := by
  have := hr.front j hj
  rw [Nat.mul_one] at this
  exact .inr ⟨g, rfl, hb, hg, this⟩
end
theorem wpList_append_s {w : World} {ops : Array Oper} {rest : List Oper} {o : Oper} {a : Act} {Q : Exit → Act → World → Prop} (hgd : Region.wanted o (yielded ops a.tmps) = true) (s x : Operand)
    (ho : o.op = .call { callee := .builtin .append, args := #[s, x], argTypes := #[32, 32] })
    (base : Nat) (v : Value) (n : Nat) (xs : List Value) (hs : a.eval s = v) (hown : RowS w base v n xs)
    (x0 : Addr) (c : Nat) (u : Value) (hx : a.eval x = .slice (some x0) 1 c) (hr : Rd 1 w (some x0) 1 c [u]) (h1 : ∀ y ∈ [u], y.oneCell' = true) (hn : n ≤ 1000000) (hbase : base ≤ w.heap.size)
    (h : ∀ v' w', RowS w' base v' (n + 1) (xs ++ [u]) → Kp (fun k => v.ownBlock = some k) w w' → (∀ k, v'.ownBlock = some k → v.ownBlock = some k ∨ w.heap.size ≤ k) → wpList Try.prog ops Q rest (a.put o.dst v') w') : wpList Try.prog ops Q (o :: rest) a w := by
  rcases hown with hown | ⟨g, rfl, h2, h3, hr2⟩
  · exact NB.wpList_append_at hgd s x 32 ho base slTS v n xs hs hown (some x0) 1 c [u] hx hr h1 (by omega) (by unfold maxLen; omega) hbase fun v' w' ho hg hv => h v' w' (.inl ho) ((Kp.refl _ _).grown hg fun k e => .inl e) hv
  · refine NB.wpList_wanted hgd fun K hK => ?_
    obtain ⟨b, o', e, hc⟩ := hr.pos (by omega)
    cases e
    obtain ⟨k, w', hrun, ho', hb'⟩ := run_append_tight (P := Try.prog) (ty := o.type) (base := base) slTS (w := w) (b := ⟨g, 0, none⟩) (n := n) (cap := n) (xs := xs) hr2.len (fun j u hu => by rw [NB.addr_add]; exact hr2.cell g 0 rfl j u hu)
      (a := ⟨b, o', none⟩) (m := 1) (c := c) (news := [u]) rfl (fun j y hy => by rw [NB.addr_add]; exact hc j y hy) (by omega) (by unfold maxLen; omega) (by omega) hbase
    unfold Oper.wp execOp
    simp only [ho, resolve, invoke, builtin, Sem.run_bind, Sem.run_pure, Result.andThen_ok, List.map_toArray, List.map_cons, List.map_nil, hs, hx, hrun]
    exact hK _ _ (h _ w' (.inl ho') (Kp.of_below hb') (fun k e => .inr (by simp only [Value.ownBlock, Option.some.injEq] at e; omega)))
end Go.Proofs.Ytmgkaoenjnnlmaa
