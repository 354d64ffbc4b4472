/- The walk for the statement DedupEntries. -/
import Derived.Test.YthemdfcokphjeaaDdw
import Derived.Test.YthemdfcokphjeaaDdp
import Derived.Test.YthemdfcokphjeaaDdr
namespace Go.Proofs.Ythemdfcokphjeaa
open Go.RowKit
open Go.NB (Rd Kp Stp Off Dis Rr footR val encU encB digs Ent dknown dat dlast B64 oneB Rw)

set_option maxRecDepth 100000 in
set_option maxHeartbeats 4000000 in
theorem law_dents (w : World) (x y : Nat) (a : Option Addr) (n c : Nat) (d : List UInt8) (a' : Option Addr) (n' c' : Nat) (b : List UInt8) (hx : B64 x) (hy : B64 y) (h : NB.RdB w a n c d) (h' : NB.RdB w a' n' c' b) :
    Calls Try.prog 3 #[.agg #[.int .u64 (x : Int), .int .u64 (y : Int), .slice a n c], .slice a' n' c'] w fun e w' => e = .returned (.bool true) ∧ Below w.heap.size w w' := by
  have hbd := Rd.bound h
  have hbd' := Rd.bound h'
  obtain rfl := NB.RdB.size h
  obtain rfl := NB.RdB.size h'
  have ob := oneB w (.cells #[.int .u64 (x : Int), .int .u64 (y : Int), .slice a d.length c] 25)
  have row0 := NB.rw_new w [.int .u64 (x : Int), .int .u64 (y : Int), .slice a d.length c] 25 rfl
  simp only [List.toArray] at row0
  by_cases hn' : b.length ≤ 300
  · have hnz' : ¬ (300 : Int) < (b.length : Int) := by omega
    by_cases hn : d.length ≤ 1100
    · have hnz : ¬ (1100 : Int) < (d.length : Int) := by omega
      have hput : putM (x, y, d) = ((putM (x, y, d)).1, (putM (x, y, d)).2) := rfl
      have hf0 : d.length ≤ 1024 → (putM (x, y, d)).2 = 0 ∧ getM (putM (x, y, d)).1 = ((x, y, d), 0) ∧ (putM (x, y, d)).1.length ≤ 3000 := fun h1 => by
        have e : putM (x, y, d) = (encU x ++ encU y ++ encB d, 0) := by simp only [putM]; rw [if_neg (by omega)]
        have hx9 := NB.encU_len hx
        have hy9 := NB.encU_len hy
        have hb9 := NB.encU_len (x := d.length) (by omega)
        rw [e]
        exact ⟨rfl, get_put hx hy h1, by simp [encB]; omega⟩
      have hf1 : ¬ d.length ≤ 1024 → (putM (x, y, d)).2 = 13 := fun h1 => by simp only [putM]; rw [if_pos (by omega)]
      have hg0 : (getM b).2 = 0 → putM (getM b).1 = (b, 0) ∧ B64 (getM b).1.1 ∧ B64 (getM b).1.2.1 := fun h1 => by
        obtain ⟨p1, p2, p3, p4⟩ := get_cases b h1
        refine ⟨?_, p1, p2⟩
        simp only [putM]
        rw [if_neg (by omega), ← p4]
      have ctp := fun w h => dput_any w x y a d.length c d hx hy h
      have ctq := fun w => rput_any w x y d hx hy (by omega)
      generalize putM (x, y, d) = P at *
      obtain ⟨Z, fz⟩ := P
      have ctg := fun w h => dget_any w a' b.length c' b h (by omega)
      have ctr := fun w => rget_any w b (by omega)
      generalize getM b = G at *
      obtain ⟨⟨gx, gy, gb⟩, ge⟩ := G
      have CTP := Go.Lib.hid ctp; have CTQ := Go.Lib.hid ctq; have CTG := Go.Lib.hid ctg; have CTR := Go.Lib.hid ctr
      have HF0 := Go.Lib.hid hf0; have HF1 := Go.Lib.hid hf1; have HG0 := Go.Lib.hid hg0
      clear ctp ctq ctg ctr hf0 hf1 hg0 hput
      go_enter Try.func3, Try.ntmps3
      go_wp2_with fail
      refine (awake_any _).mono ?_
      rintro e w1 ⟨rfl, hb1⟩
      have rowE := row0.below hb1
      have B1 := NB.bel ob hb1 ob.size
      have lt1 : w.heap.size < w1.heap.size := rowE.lt
      clear row0 ob hb1
      obtain ⟨c0, c1, c2, _⟩ := NB.rw3 rowE
      go_wp2_with fail
      refine (CTP.out _ (h.below B1)).mono ?_
      rintro e w2 ⟨a2, c2', rfl, ho2, hb2⟩
      simp only at ho2 ⊢
      have rowE2 := rowE.below hb2
      have B2 := NB.bel B1 hb2 B1.size
      have r2 := (Off.fresh (F := fun _ => False) ho2 (fun _ h => h.elim)).rd
      clear rowE hb2 ho2 B1 c0 c1 c2
      obtain ⟨c0, c1, c2, _⟩ := NB.rw3 rowE2
      go_wp2_with (refine NB.wpList_conv_str rfl 23 9 (.tmp 41) rfl Try.underlying23 Try.underlying5 Try.underlying9 a d.length c d rfl (h.below B2) ?_)
      refine (CTQ.out _).mono ?_
      rintro e w3 ⟨rfl, hb3⟩
      simp only
      have rowE3 := rowE2.below hb3
      have B3 := NB.bel B2 hb3 B2.size
      have r3 := r2.below hb3
      clear rowE2 hb3 B2 c0 c1 c2 r2
      go_wp2_with fail
      refine (CTG.out _ (h'.below B3)).mono ?_
      rintro e w4 ⟨ag, ng, cg, rfl, rg, hb4⟩
      simp only at rg ⊢
      have row4 := NB.rw_new w4 [.int .u64 (gx : Int), .int .u64 (gy : Int), .slice ag ng cg] 25 rfl
      have ob4 := oneB w4 (.cells #[.int .u64 (gx : Int), .int .u64 (gy : Int), .slice ag ng cg] 25)
      simp only [List.toArray] at row4
      have rowE5 := (rowE3.below hb4).below ob4
      have B4 := NB.bel B3 hb4 B3.size
      have B5 := NB.bel B4 ob4 B4.size
      have r5 := (r3.below hb4).below ob4
      have rg5 := rg.below ob4
      have lt4 : w.heap.size < w4.heap.size := (rowE3.below hb4).lt
      clear rowE3 hb4 B3 r3 rg B4 ob4
      go_wp2_with (refine NB.wpList_conv_str rfl 23 9 (.tmp 53) rfl Try.underlying23 Try.underlying5 Try.underlying9 a' b.length c' b rfl (h'.below B5) ?_)
      generalize w4.alloc (.cells #[.int .u64 (gx : Int), .int .u64 (gy : Int), .slice ag ng cg] 25) = w5 at *
      generalize w4.heap.size = G4 at *
      refine (CTR.out _).mono ?_
      rintro e w6 ⟨rfl, hb6⟩
      simp only
      have row6 := NB.rw_new w6 [.int .u64 (gx : Int), .int .u64 (gy : Int), .string ⟨gb.toArray⟩] 33 rfl
      have ob6 := oneB w6 (.cells #[.int .u64 (gx : Int), .int .u64 (gy : Int), .string ⟨gb.toArray⟩] 33)
      simp only [List.toArray] at row6
      have rowE7 := (rowE5.below hb6).below ob6
      have rowX7 := (row4.below hb6).below ob6
      have B6 := NB.bel B5 hb6 B5.size
      have B7 := NB.bel B6 ob6 B6.size
      have r7 := (r5.below hb6).below ob6
      have rg7 := (rg5.below hb6).below ob6
      obtain rfl := NB.RdB.size rg7
      clear rowE5 row4 hb6 B5 r5 rg5 B6 ob6 CTP CTQ CTG CTR
      -- ways
      obtain ⟨c0, c1, c2, _⟩ := NB.rw3 rowE7
      obtain ⟨d0, d1, d2, _⟩ := NB.rw3 rowX7
      obtain ⟨q0, q1, q2, _⟩ := NB.rw3 row6
      clear rowE7 rowX7 row6
      obtain ⟨w7, hw7⟩ : ∃ w7, w6.alloc (.cells #[.int .u64 (gx : Int), .int .u64 (gy : Int), .string ⟨gb.toArray⟩] 33) = w7 := ⟨_, rfl⟩
      rw [hw7] at c0 c1 c2 d0 d1 d2 q0 q1 q2 B7 r7 rg7
      have HW7 := Go.Lib.hid hw7; clear hw7
      by_cases h1 : d.length ≤ 1024
      · obtain ⟨hfz, hgz, hzl⟩ := HF0.out h1
        subst hfz
        try simp only at hgz hzl
        have HGZ := Go.Lib.hid hgz; clear hgz HF1 HF0
        go_wp2_with (first
          | (rw [HW7.out]; refine NB.wpList_conv_str rfl 23 9 (.tmp 58) rfl Try.underlying23 Try.underlying5 Try.underlying9 a2 Z.length c2' Z rfl (r7) ?_)
          | (refine NB.wpList_conv_str rfl 23 9 (.tmp 88) rfl Try.underlying23 Try.underlying5 Try.underlying9 ag gb.length cg gb rfl (rg7) ?_))
        refine (dget_any _ a2 Z.length c2' Z r7 (by omega)).mono ?_
        rw [HGZ.out]
        rintro e w8 ⟨ay, ny, cy, rfl, ry, hb8⟩
        try simp only at ry
        obtain rfl := NB.RdB.size ry
        have row8 := NB.rw_new w8 [.int .u64 (x : Int), .int .u64 (y : Int), .slice ay d.length cy] 25 rfl
        have ob8 := oneB w8 (.cells #[.int .u64 (x : Int), .int .u64 (y : Int), .slice ay d.length cy] 25)
        simp only [List.toArray] at row8
        have k78 := NB.bel hb8 ob8 hb8.size
        have B9 := NB.bel B7 k78 B7.size
        have ry9 := ry.below ob8
        have rg9 := rg7.below k78
        have lc := fun (b o : Nat) (v : Value) (hc : w7.cell? ⟨b, o, none⟩ = some v) => (k78.cell (p := ⟨b, o, none⟩) (World.block_lt_of_cell? w7 _ hc)).trans hc
        replace c0 := lc _ _ _ c0; replace c1 := lc _ _ _ c1; replace c2 := lc _ _ _ c2; replace d0 := lc _ _ _ d0; replace d1 := lc _ _ _ d1; replace d2 := lc _ _ _ d2
        obtain ⟨t0, t1, t2, _⟩ := NB.rw3 row8
        clear lc k78 ob8 hb8 ry q0 q1 q2 row8
        by_cases hge : ge = 0
        · obtain ⟨hpp, gx64, gy64⟩ := HG0.out hge
          subst hge
          have HPP := Go.Lib.hid hpp; clear hpp
          go_wp2_with (first
            | (refine NB.wpList_conv_str rfl 23 9 (.tmp 119) rfl Try.underlying23 Try.underlying5 Try.underlying9 ay d.length cy d rfl (ry9) ?_)
            | (refine NB.wpList_conv_str rfl 23 9 (.tmp 122) rfl Try.underlying23 Try.underlying5 Try.underlying9 a d.length c d rfl (h.below B9) ?_))
          refine (dput_any _ gx gy _ _ _ gb gx64 gy64 (rg9)).mono ?_
          rw [HPP.out]
          rintro e w11 ⟨a11, c11, rfl, ho11, hb11⟩
          simp only at ho11
          have B11 := NB.bel B9 hb11 B9.size
          have r11 := (Off.fresh (F := fun _ => False) ho11 (fun _ h => h.elim)).rd
          go_wp2_with (first
            | (refine NB.wpList_conv_str rfl 23 9 (.tmp 136) rfl Try.underlying23 Try.underlying5 Try.underlying9 a11 b.length c11 b rfl (r11) ?_)
            | (refine NB.wpList_conv_str rfl 23 9 (.tmp 138) rfl Try.underlying23 Try.underlying5 Try.underlying9 a' b.length c' b rfl (h'.below B11) ?_))
          go_ret
          exact ⟨rfl, B11⟩
        · have hgb : (ge != 0) = true := by simp [hge]
          clear hge
          go_wp2_with (first
            | (refine NB.wpList_conv_str rfl 23 9 (.tmp 119) rfl Try.underlying23 Try.underlying5 Try.underlying9 ay d.length cy d rfl (ry9) ?_)
            | (refine NB.wpList_conv_str rfl 23 9 (.tmp 122) rfl Try.underlying23 Try.underlying5 Try.underlying9 a d.length c d rfl (h.below B9) ?_))
          go_ret
          exact ⟨rfl, B9⟩
      · have hfz := HF1.out h1
        try simp only at hfz
        subst hfz
        clear HF1 HF0
        by_cases hge : ge = 0
        · obtain ⟨hpp, gx64, gy64⟩ := HG0.out hge
          subst hge
          have HPP := Go.Lib.hid hpp; clear hpp
          go_wp2_with (first
            | (rw [HW7.out]; refine NB.wpList_conv_str rfl 23 9 (.tmp 58) rfl Try.underlying23 Try.underlying5 Try.underlying9 a2 Z.length c2' Z rfl (r7) ?_)
            | (refine NB.wpList_conv_str rfl 23 9 (.tmp 88) rfl Try.underlying23 Try.underlying5 Try.underlying9 ag gb.length cg gb rfl (rg7) ?_))
          refine (dput_any _ gx gy _ _ _ gb gx64 gy64 (rg7)).mono ?_
          rw [HPP.out]
          rintro e w11 ⟨a11, c11, rfl, ho11, hb11⟩
          simp only at ho11
          have B11 := NB.bel B7 hb11 B7.size
          have r11 := (Off.fresh (F := fun _ => False) ho11 (fun _ h => h.elim)).rd
          go_wp2_with (first
            | (refine NB.wpList_conv_str rfl 23 9 (.tmp 136) rfl Try.underlying23 Try.underlying5 Try.underlying9 a11 b.length c11 b rfl (r11) ?_)
            | (refine NB.wpList_conv_str rfl 23 9 (.tmp 138) rfl Try.underlying23 Try.underlying5 Try.underlying9 a' b.length c' b rfl (h'.below B11) ?_))
          go_ret
          exact ⟨rfl, B11⟩
        · have hgb : (ge != 0) = true := by simp [hge]
          clear hge
          go_wp2_with (first
            | (rw [HW7.out]; refine NB.wpList_conv_str rfl 23 9 (.tmp 58) rfl Try.underlying23 Try.underlying5 Try.underlying9 a2 Z.length c2' Z rfl (r7) ?_)
            | (refine NB.wpList_conv_str rfl 23 9 (.tmp 88) rfl Try.underlying23 Try.underlying5 Try.underlying9 ag gb.length cg gb rfl (rg7) ?_))
          go_ret
          exact ⟨rfl, B7⟩
    · have hnz : (1100 : Int) < (d.length : Int) := by omega
      go_enter Try.func3, Try.ntmps3
      go_wp2_with fail
      refine (awake_any _).mono ?_
      rintro e w1 ⟨rfl, hb1⟩
      obtain ⟨c0, c1, c2, _⟩ := NB.rw3 (row0.below hb1)
      go_wp2_with fail
      go_ret
      exact ⟨rfl, NB.bel ob hb1 ob.size⟩
  · have hnz' : (300 : Int) < (b.length : Int) := by omega
    go_enter Try.func3, Try.ntmps3
    go_wp2_with (go_at_call 8; refine (awake_any _).mono ?_; rintro e w1 ⟨rfl, hb1⟩)
    go_ret
    exact ⟨rfl, NB.bel ob hb1 ob.size⟩
end Go.Proofs.Ythemdfcokphjeaa
