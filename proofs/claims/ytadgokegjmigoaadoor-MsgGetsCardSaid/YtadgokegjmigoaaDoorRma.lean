/- The reference on messages: fields, in, number: walked. -/
import Derived.Test.YtadgokegjmigoaaDoorMgc
import Derived.Test.YtadgokegjmigoaaDoorMgp
import Derived.Test.YtadgokegjmigoaaDoorRw
namespace Go.Proofs.YtadgokegjmigoaaDoor
open Go.RowKit Go.Shelf
open Go.NB (Rd Kp Stp Off Dis oneB dB Rw RdU Lp Rr encU encB digs)

def ltrs : List UInt8 := [98, 115, 104, 103, 99, 113, 112, 100, 118, 120]
def stK : List (List UInt8) := [[], [104, 103, 99, 113, 120], [104, 103, 99, 113, 112, 100], [104, 103, 99, 113, 112, 120], [104, 103, 112], [104, 103, 112], [104, 103, 118], [98, 115], [98, 115, 120], [98, 115, 120], [98, 115], [98], [115, 120], [115], [99, 113, 112], [104, 103, 99, 113, 112, 100, 120], [104, 103, 99, 113, 112, 100], [99, 113, 112, 100], [98, 115]]
def stV : List Value := [.string (ByteArray.mk #[]), .string (ByteArray.mk #[104, 103, 99, 113, 120]), .string (ByteArray.mk #[104, 103, 99, 113, 112, 100]), .string (ByteArray.mk #[104, 103, 99, 113, 112, 120]), .string (ByteArray.mk #[104, 103, 112]), .string (ByteArray.mk #[104, 103, 112]), .string (ByteArray.mk #[104, 103, 118]), .string (ByteArray.mk #[98, 115]), .string (ByteArray.mk #[98, 115, 120]), .string (ByteArray.mk #[98, 115, 120]), .string (ByteArray.mk #[98, 115]), .string (ByteArray.mk #[98]), .string (ByteArray.mk #[115, 120]), .string (ByteArray.mk #[115]), .string (ByteArray.mk #[99, 113, 112]), .string (ByteArray.mk #[104, 103, 99, 113, 112, 100, 120]), .string (ByteArray.mk #[104, 103, 99, 113, 112, 100]), .string (ByteArray.mk #[99, 113, 112, 100]), .string (ByteArray.mk #[98, 115])]
theorem stV_at (k : Nat) (h : k < 19) : stV[k]? = some (.string (ByteArray.mk (stK.getD k []).toArray)) := by
  have h1 : stV = stK.map (fun l => Value.string (ByteArray.mk l.toArray)) := rfl
  have h2 : stK[k]? = some (stK.getD k []) := by
    rw [List.getElem?_eq_getElem (show k < stK.length from h)]
    simp [List.getD, List.getElem?_eq_getElem (show k < stK.length from h)]
  rw [h1, List.getElem?_map, h2]; rfl
/-- The letters of a kind are its fields' letters, in their order. -/
theorem stK_flds : ∀ k, k < 19 → 1 ≤ k → stK.getD k [] = (flds k).map fun f => ltrs.getD f 0 := by decide
theorem byte_eqr (x c : UInt8) : ((x.toNat : Int) == (c.toNat : Int)) = (x == c) := by
  by_cases h : x = c
  · subst h; simp
  · have h1 : x.toNat ≠ c.toNat := fun e => h (UInt8.toNat_inj.1 e)
    rw [beq_false_of_ne h, beq_false_of_ne (by omega)]
def fieldsM (k : Int) : List UInt8 := if known k = true then stK.getD k.toNat [] else []

set_option maxRecDepth 100000 in
set_option maxHeartbeats 2000000 in
theorem rfields_any (w : World) (k : Int) :
    Calls Tryd.prog 29 #[.int .i64 k] w fun e w' => e = .returned (.string (ByteArray.mk (fieldsM k).toArray)) ∧ Below w.heap.size w w' := by
  by_cases h1 : k < 1
  · have hk : fieldsM k = [] := by unfold fieldsM; rw [if_neg (by rw [known_iff]; omega)]
    rw [hk]
    go_enter Tryd.func29, Tryd.ntmps29
    go_wp2_with fail
    go_ret
    exact ⟨rfl, oneB _ _⟩
  · by_cases h2 : 18 < k
    · have hk : fieldsM k = [] := by unfold fieldsM; rw [if_neg (by rw [known_iff]; omega)]
      rw [hk]
      have h1' : 1 ≤ k := by omega
      go_enter Tryd.func29, Tryd.ntmps29
      go_wp2_with fail
      go_ret
      exact ⟨rfl, oneB _ _⟩
    · obtain ⟨kk, rfl⟩ := Int.eq_ofNat_of_zero_le (show 0 ≤ k by omega)
      have hk : fieldsM (kk : Int) = stK.getD kk [] := by unfold fieldsM; rw [if_pos (by rw [known_iff]; omega)]; rfl
      rw [hk]
      have sa := stV_at kk (by omega)
      obtain ⟨S, hS⟩ : ∃ S, stK.getD kk [] = S := ⟨_, rfl⟩
      rw [hS] at sa ⊢
      have q0 : (w.alloc (.cells #[.string (ByteArray.mk #[]), .string (ByteArray.mk #[104, 103, 99, 113, 120]), .string (ByteArray.mk #[104, 103, 99, 113, 112, 100]), .string (ByteArray.mk #[104, 103, 99, 113, 112, 120]), .string (ByteArray.mk #[104, 103, 112]), .string (ByteArray.mk #[104, 103, 112]), .string (ByteArray.mk #[104, 103, 118]), .string (ByteArray.mk #[98, 115]), .string (ByteArray.mk #[98, 115, 120]), .string (ByteArray.mk #[98, 115, 120]), .string (ByteArray.mk #[98, 115]), .string (ByteArray.mk #[98]), .string (ByteArray.mk #[115, 120]), .string (ByteArray.mk #[115]), .string (ByteArray.mk #[99, 113, 112]), .string (ByteArray.mk #[104, 103, 99, 113, 112, 100, 120]), .string (ByteArray.mk #[104, 103, 99, 113, 112, 100]), .string (ByteArray.mk #[99, 113, 112, 100]), .string (ByteArray.mk #[98, 115])] 9)).cell? ⟨w.heap.size, kk, none⟩ = some (.string (ByteArray.mk S.toArray)) := (NB.rw_new w stV 9 rfl).cell kk _ sa
      have h1' : (1 : Int) ≤ (kk : Int) := by omega
      have h2' : (kk : Int) ≤ 18 := by omega
      clear sa hS hk
      go_enter Tryd.func29, Tryd.ntmps29
      go_wp2_with fail
      go_ret
      exact ⟨rfl, oneB _ _⟩

set_option maxRecDepth 100000 in
set_option maxHeartbeats 2000000 in
theorem rin_any (w : World) (S : List UInt8) (c : UInt8) (hS : S.length ≤ 1000) :
    Calls Tryd.prog 40 #[.string (ByteArray.mk S.toArray), .int .u8 (c.toNat : Int)] w fun e w' => e = .returned (.bool (S.any (· == c))) ∧ w' = w := by
  obtain ⟨V, hV⟩ : ∃ V, S.any (· == c) = V := ⟨_, rfl⟩
  rw [hV]
  have HV := Go.Lib.hid hV
  clear hV
  go_enter Tryd.func40, Tryd.ntmps40
  go_wp2_with fail
  go_loop [5] (fun y => ∃ i : Nat, i ≤ S.length ∧ (S.take i).any (· == c) = false ∧ y = .int .i64 (i : Int)) (fun y => S.length - (intOf y).toNat)
  case atStart => exact ⟨0, by omega, rfl, rfl⟩
  case round =>
    obtain ⟨i, hi, hn, rfl⟩ := hrel
    have HN := Go.Lib.hid hn
    clear hn
    by_cases hlt : i < S.length
    case neg =>
      have hli : ¬ (i : Int) < (S.length : Int) := by omega
      have hv : V = false := by
        have := HN.out
        rw [List.take_of_length_le (by omega)] at this
        rw [← HV.out, this]
      have HV2 := Go.Lib.hid hv
      clear hv
      go_wp2_with fail
      go_ret
      exact ⟨by rw [HV2.out]; rfl, rfl⟩
    have hli : (i : Int) < (S.length : Int) := by omega
    have htk : S.take (i + 1) = S.take i ++ [S[i]] := by rw [List.take_add_one, List.getElem?_eq_getElem hlt]; rfl
    have HTK := Go.Lib.hid htk
    clear htk
    have hgi : ∀ h, (ByteArray.mk S.toArray)[i]'h = S[i] := fun _ => rfl
    by_cases he : S[i] = c
    · have hb : ((S[i].toNat : Int) == (c.toNat : Int)) = true := by rw [byte_eqr, he]; simp
      have hv : V = true := by
        rw [← HV.out]
        exact List.any_eq_true.2 ⟨S[i], List.getElem_mem _, by rw [he]; simp⟩
      have HV2 := Go.Lib.hid hv
      have HE := Go.Lib.hid he
      clear hv he
      go_wp2_with fail
      go_ret
      exact ⟨by rw [HV2.out]; rfl, rfl⟩
    · have hb : ((S[i].toNat : Int) == (c.toNat : Int)) = false := by rw [byte_eqr, beq_false_of_ne he]
      have hnx : (S.take (i + 1)).any (· == c) = false := by rw [HTK.out, List.any_append, HN.out]; simp [he]
      have HNX := Go.Lib.hid hnx
      clear hnx he
      go_wp2_with fail
      go_round
      case rel => exact ⟨i + 1, by omega, HNX.out, by go_num⟩
      case measure => simp [intOf]; omega


def numR (m : Mm) (f : Nat) : Nat := if f < 8 then natF m f else if f = 8 then m.vec.length else m.body.length


set_option maxRecDepth 100000 in
set_option maxHeartbeats 2000000 in
theorem rnum_0 (w : World) (m : Mm) (av : Option Addr) (cv : Nat) (hv : m.vec.length ≤ 100000) (hb : m.body.length ≤ 100000) (hok : 0 < 8 → okFl 0 m) :
    Calls Tryd.prog 41 #[.agg #[.int .i64 m.kind, .int .u64 (m.ballot : Int), .int .u64 (m.slot : Int), .int .i64 m.shard, .int .i64 m.seg, .int .u64 (m.client : Int), .int .u64 (m.seq : Int), .int .u64 (m.pos : Int), .int .i64 m.code, .slice av m.vec.length cv, .string (ByteArray.mk m.body.toArray)], .int .u8 98] w fun e w' => e = .returned (.int .u64 (numR m 0 : Int)) ∧ Below w.heap.size w w' := by
  show Calls _ _ _ _ fun e w' => e = .returned (.int .u64 (m.ballot : Int)) ∧ _
  go_enter Tryd.func41, Tryd.ntmps41
  go_wp2_with fail
  go_ret
  exact ⟨rfl, oneB _ _⟩

set_option maxRecDepth 100000 in
set_option maxHeartbeats 2000000 in
theorem rnum_1 (w : World) (m : Mm) (av : Option Addr) (cv : Nat) (hv : m.vec.length ≤ 100000) (hb : m.body.length ≤ 100000) (hok : 1 < 8 → okFl 1 m) :
    Calls Tryd.prog 41 #[.agg #[.int .i64 m.kind, .int .u64 (m.ballot : Int), .int .u64 (m.slot : Int), .int .i64 m.shard, .int .i64 m.seg, .int .u64 (m.client : Int), .int .u64 (m.seq : Int), .int .u64 (m.pos : Int), .int .i64 m.code, .slice av m.vec.length cv, .string (ByteArray.mk m.body.toArray)], .int .u8 115] w fun e w' => e = .returned (.int .u64 (numR m 1 : Int)) ∧ Below w.heap.size w w' := by
  show Calls _ _ _ _ fun e w' => e = .returned (.int .u64 (m.slot : Int)) ∧ _
  go_enter Tryd.func41, Tryd.ntmps41
  go_wp2_with fail
  go_ret
  exact ⟨rfl, oneB _ _⟩

set_option maxRecDepth 100000 in
set_option maxHeartbeats 2000000 in
theorem rnum_2 (w : World) (m : Mm) (av : Option Addr) (cv : Nat) (hv : m.vec.length ≤ 100000) (hb : m.body.length ≤ 100000) (hok : 2 < 8 → okFl 2 m) :
    Calls Tryd.prog 41 #[.agg #[.int .i64 m.kind, .int .u64 (m.ballot : Int), .int .u64 (m.slot : Int), .int .i64 m.shard, .int .i64 m.seg, .int .u64 (m.client : Int), .int .u64 (m.seq : Int), .int .u64 (m.pos : Int), .int .i64 m.code, .slice av m.vec.length cv, .string (ByteArray.mk m.body.toArray)], .int .u8 104] w fun e w' => e = .returned (.int .u64 (numR m 2 : Int)) ∧ Below w.heap.size w w' := by
  have hok := hok (by omega)
  simp only [okFl] at hok
  have hw : IntKind.u64.wrap m.shard = m.shard := IntWalk.u64_in _ ⟨by omega, by omega⟩
  have hn : ((numR m 2 : Nat) : Int) = m.shard := by show ((m.shard.toNat : Nat) : Int) = m.shard; omega
  rw [hn]
  clear hn
  go_enter Tryd.func41, Tryd.ntmps41
  go_wp2_with fail
  go_ret
  exact ⟨rfl, oneB _ _⟩

set_option maxRecDepth 100000 in
set_option maxHeartbeats 2000000 in
theorem rnum_3 (w : World) (m : Mm) (av : Option Addr) (cv : Nat) (hv : m.vec.length ≤ 100000) (hb : m.body.length ≤ 100000) (hok : 3 < 8 → okFl 3 m) :
    Calls Tryd.prog 41 #[.agg #[.int .i64 m.kind, .int .u64 (m.ballot : Int), .int .u64 (m.slot : Int), .int .i64 m.shard, .int .i64 m.seg, .int .u64 (m.client : Int), .int .u64 (m.seq : Int), .int .u64 (m.pos : Int), .int .i64 m.code, .slice av m.vec.length cv, .string (ByteArray.mk m.body.toArray)], .int .u8 103] w fun e w' => e = .returned (.int .u64 (numR m 3 : Int)) ∧ Below w.heap.size w w' := by
  have hok := hok (by omega)
  simp only [okFl] at hok
  have hw : IntKind.u64.wrap m.seg = m.seg := IntWalk.u64_in _ ⟨by omega, by omega⟩
  have hn : ((numR m 3 : Nat) : Int) = m.seg := by show ((m.seg.toNat : Nat) : Int) = m.seg; omega
  rw [hn]
  clear hn
  go_enter Tryd.func41, Tryd.ntmps41
  go_wp2_with fail
  go_ret
  exact ⟨rfl, oneB _ _⟩

set_option maxRecDepth 100000 in
set_option maxHeartbeats 2000000 in
theorem rnum_4 (w : World) (m : Mm) (av : Option Addr) (cv : Nat) (hv : m.vec.length ≤ 100000) (hb : m.body.length ≤ 100000) (hok : 4 < 8 → okFl 4 m) :
    Calls Tryd.prog 41 #[.agg #[.int .i64 m.kind, .int .u64 (m.ballot : Int), .int .u64 (m.slot : Int), .int .i64 m.shard, .int .i64 m.seg, .int .u64 (m.client : Int), .int .u64 (m.seq : Int), .int .u64 (m.pos : Int), .int .i64 m.code, .slice av m.vec.length cv, .string (ByteArray.mk m.body.toArray)], .int .u8 99] w fun e w' => e = .returned (.int .u64 (numR m 4 : Int)) ∧ Below w.heap.size w w' := by
  show Calls _ _ _ _ fun e w' => e = .returned (.int .u64 (m.client : Int)) ∧ _
  go_enter Tryd.func41, Tryd.ntmps41
  go_wp2_with fail
  go_ret
  exact ⟨rfl, oneB _ _⟩

set_option maxRecDepth 100000 in
set_option maxHeartbeats 2000000 in
theorem rnum_5 (w : World) (m : Mm) (av : Option Addr) (cv : Nat) (hv : m.vec.length ≤ 100000) (hb : m.body.length ≤ 100000) (hok : 5 < 8 → okFl 5 m) :
    Calls Tryd.prog 41 #[.agg #[.int .i64 m.kind, .int .u64 (m.ballot : Int), .int .u64 (m.slot : Int), .int .i64 m.shard, .int .i64 m.seg, .int .u64 (m.client : Int), .int .u64 (m.seq : Int), .int .u64 (m.pos : Int), .int .i64 m.code, .slice av m.vec.length cv, .string (ByteArray.mk m.body.toArray)], .int .u8 113] w fun e w' => e = .returned (.int .u64 (numR m 5 : Int)) ∧ Below w.heap.size w w' := by
  show Calls _ _ _ _ fun e w' => e = .returned (.int .u64 (m.seq : Int)) ∧ _
  go_enter Tryd.func41, Tryd.ntmps41
  go_wp2_with fail
  go_ret
  exact ⟨rfl, oneB _ _⟩

set_option maxRecDepth 100000 in
set_option maxHeartbeats 2000000 in
theorem rnum_6 (w : World) (m : Mm) (av : Option Addr) (cv : Nat) (hv : m.vec.length ≤ 100000) (hb : m.body.length ≤ 100000) (hok : 6 < 8 → okFl 6 m) :
    Calls Tryd.prog 41 #[.agg #[.int .i64 m.kind, .int .u64 (m.ballot : Int), .int .u64 (m.slot : Int), .int .i64 m.shard, .int .i64 m.seg, .int .u64 (m.client : Int), .int .u64 (m.seq : Int), .int .u64 (m.pos : Int), .int .i64 m.code, .slice av m.vec.length cv, .string (ByteArray.mk m.body.toArray)], .int .u8 112] w fun e w' => e = .returned (.int .u64 (numR m 6 : Int)) ∧ Below w.heap.size w w' := by
  show Calls _ _ _ _ fun e w' => e = .returned (.int .u64 (m.pos : Int)) ∧ _
  go_enter Tryd.func41, Tryd.ntmps41
  go_wp2_with fail
  go_ret
  exact ⟨rfl, oneB _ _⟩

set_option maxRecDepth 100000 in
set_option maxHeartbeats 2000000 in
theorem rnum_7 (w : World) (m : Mm) (av : Option Addr) (cv : Nat) (hv : m.vec.length ≤ 100000) (hb : m.body.length ≤ 100000) (hok : 7 < 8 → okFl 7 m) :
    Calls Tryd.prog 41 #[.agg #[.int .i64 m.kind, .int .u64 (m.ballot : Int), .int .u64 (m.slot : Int), .int .i64 m.shard, .int .i64 m.seg, .int .u64 (m.client : Int), .int .u64 (m.seq : Int), .int .u64 (m.pos : Int), .int .i64 m.code, .slice av m.vec.length cv, .string (ByteArray.mk m.body.toArray)], .int .u8 100] w fun e w' => e = .returned (.int .u64 (numR m 7 : Int)) ∧ Below w.heap.size w w' := by
  have hok := hok (by omega)
  simp only [okFl] at hok
  have hw : IntKind.u64.wrap m.code = m.code := IntWalk.u64_in _ ⟨by omega, by omega⟩
  have hn : ((numR m 7 : Nat) : Int) = m.code := by show ((m.code.toNat : Nat) : Int) = m.code; omega
  rw [hn]
  clear hn
  go_enter Tryd.func41, Tryd.ntmps41
  go_wp2_with fail
  go_ret
  exact ⟨rfl, oneB _ _⟩

set_option maxRecDepth 100000 in
set_option maxHeartbeats 2000000 in
theorem rnum_8 (w : World) (m : Mm) (av : Option Addr) (cv : Nat) (hv : m.vec.length ≤ 100000) (hb : m.body.length ≤ 100000) (hok : 8 < 8 → okFl 8 m) :
    Calls Tryd.prog 41 #[.agg #[.int .i64 m.kind, .int .u64 (m.ballot : Int), .int .u64 (m.slot : Int), .int .i64 m.shard, .int .i64 m.seg, .int .u64 (m.client : Int), .int .u64 (m.seq : Int), .int .u64 (m.pos : Int), .int .i64 m.code, .slice av m.vec.length cv, .string (ByteArray.mk m.body.toArray)], .int .u8 118] w fun e w' => e = .returned (.int .u64 (numR m 8 : Int)) ∧ Below w.heap.size w w' := by
  have hw : IntKind.u64.wrap (m.vec.length : Int) = (m.vec.length : Int) := IntWalk.u64_in _ ⟨by omega, by omega⟩
  show Calls _ _ _ _ fun e w' => e = .returned (.int .u64 (m.vec.length : Int)) ∧ _
  go_enter Tryd.func41, Tryd.ntmps41
  go_wp2_with fail
  go_ret
  exact ⟨rfl, oneB _ _⟩

set_option maxRecDepth 100000 in
set_option maxHeartbeats 2000000 in
theorem rnum_9 (w : World) (m : Mm) (av : Option Addr) (cv : Nat) (hv : m.vec.length ≤ 100000) (hb : m.body.length ≤ 100000) (hok : 9 < 8 → okFl 9 m) :
    Calls Tryd.prog 41 #[.agg #[.int .i64 m.kind, .int .u64 (m.ballot : Int), .int .u64 (m.slot : Int), .int .i64 m.shard, .int .i64 m.seg, .int .u64 (m.client : Int), .int .u64 (m.seq : Int), .int .u64 (m.pos : Int), .int .i64 m.code, .slice av m.vec.length cv, .string (ByteArray.mk m.body.toArray)], .int .u8 120] w fun e w' => e = .returned (.int .u64 (numR m 9 : Int)) ∧ Below w.heap.size w w' := by
  have hw : IntKind.u64.wrap (m.body.length : Int) = (m.body.length : Int) := IntWalk.u64_in _ ⟨by omega, by omega⟩
  show Calls _ _ _ _ fun e w' => e = .returned (.int .u64 (m.body.length : Int)) ∧ _
  go_enter Tryd.func41, Tryd.ntmps41
  go_wp2_with fail
  go_ret
  exact ⟨rfl, oneB _ _⟩
end Go.Proofs.YtadgokegjmigoaaDoor
