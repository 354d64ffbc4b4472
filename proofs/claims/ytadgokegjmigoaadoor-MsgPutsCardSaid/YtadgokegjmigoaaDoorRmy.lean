/- Rma, Rmb, Rmc, Rmd, as one text. -/
import Derived.Test.YtadgokegjmigoaaDoorMgc
import Derived.Test.YtadgokegjmigoaaDoorMgp
import Derived.Test.YtadgokegjmigoaaDoorRw
import Derived.Test.YtadgokegjmigoaaDoorTail
import Derived.Test.YtadgokegjmigoaaDoorNre
import Derived.Test.YtadgokegjmigoaaDoorFrx
namespace Go.Proofs.YtadgokegjmigoaaDoor
open Go.RowKit Go.Shelf
open Go.NB (Rd Kp Stp Off Dis oneB dB Rw RdU Lp Rr encU encB digs)

def ltrs : List UInt8 := [98, 115, 104, 103, 99, 113, 112, 100, 118, 120]
def stK : List (List UInt8) := [[], [104, 103, 99, 113, 120], [104, 103, 99, 113, 112, 100], [104, 103, 99, 113, 112, 120], [104, 103, 112], [104, 103, 112], [104, 103, 118], [98, 115], [98, 115, 120], [98, 115, 120], [98, 115], [98], [115, 120], [115], [99, 113, 112], [104, 103, 99, 113, 112, 100, 120], [104, 103, 99, 113, 112, 100], [99, 113, 112, 100], [98, 115]]
def stV : List Value := [.string (ByteArray.mk #[]), .string (ByteArray.mk #[104, 103, 99, 113, 120]), .string (ByteArray.mk #[104, 103, 99, 113, 112, 100]), .string (ByteArray.mk #[104, 103, 99, 113, 112, 120]), .string (ByteArray.mk #[104, 103, 112]), .string (ByteArray.mk #[104, 103, 112]), .string (ByteArray.mk #[104, 103, 118]), .string (ByteArray.mk #[98, 115]), .string (ByteArray.mk #[98, 115, 120]), .string (ByteArray.mk #[98, 115, 120]), .string (ByteArray.mk #[98, 115]), .string (ByteArray.mk #[98]), .string (ByteArray.mk #[115, 120]), .string (ByteArray.mk #[115]), .string (ByteArray.mk #[99, 113, 112]), .string (ByteArray.mk #[104, 103, 99, 113, 112, 100, 120]), .string (ByteArray.mk #[104, 103, 99, 113, 112, 100]), .string (ByteArray.mk #[99, 113, 112, 100]), .string (ByteArray.mk #[98, 115])]
theorem stV_at (k : Nat) (h : k < 19) : stV[k]? = some (.string (ByteArray.mk (stK.getD k []).toArray)) := by
  have h1 : stV = stK.map (fun l => Value.string (ByteArray.mk l.toArray)) := rfl
  have h2 : stK[k]? = some (stK.getD k []) := by
    rw [List.getElem?_eq_getElem (show k < stK.length from h)]
    simp [List.getD, List.getElem?_eq_getElem (show k < stK.length from h)]
  rw [h1, List.getElem?_map, h2]; rfl
/-- The letters of a kind are its fields' letters, in their order. -/
theorem stK_flds : ∀ k, k < 19 → 1 ≤ k → stK.getD k [] = (flds k).map fun f => ltrs.getD f 0 := by decide
theorem byte_eqr (x c : UInt8) : ((x.toNat : Int) == (c.toNat : Int)) = (x == c) := by
  by_cases h : x = c
  · subst h; simp
  · have h1 : x.toNat ≠ c.toNat := fun e => h (UInt8.toNat_inj.1 e)
    rw [beq_false_of_ne h, beq_false_of_ne (by omega)]
def fieldsM (k : Int) : List UInt8 := if known k = true then stK.getD k.toNat [] else []

set_option maxRecDepth 100000 in
set_option maxHeartbeats 2000000 in
theorem rfields_any (w : World) (k : Int) :
    Calls Tryd.prog 29 #[.int .i64 k] w fun e w' => e = .returned (.string (ByteArray.mk (fieldsM k).toArray)) ∧ Below w.heap.size w w' := by
  by_cases h1 : k < 1
  · have hk : fieldsM k = [] := by unfold fieldsM; rw [if_neg (by rw [known_iff]; omega)]
    rw [hk]
    go_enter Tryd.func29, Tryd.ntmps29
    go_wp2_with fail
    go_ret
    exact ⟨rfl, oneB _ _⟩
  · by_cases h2 : 18 < k
    · have hk : fieldsM k = [] := by unfold fieldsM; rw [if_neg (by rw [known_iff]; omega)]
      rw [hk]
      have h1' : 1 ≤ k := by omega
      go_enter Tryd.func29, Tryd.ntmps29
      go_wp2_with fail
      go_ret
      exact ⟨rfl, oneB _ _⟩
    · obtain ⟨kk, rfl⟩ := Int.eq_ofNat_of_zero_le (show 0 ≤ k by omega)
      have hk : fieldsM (kk : Int) = stK.getD kk [] := by unfold fieldsM; rw [if_pos (by rw [known_iff]; omega)]; rfl
      rw [hk]
      have sa := stV_at kk (by omega)
      obtain ⟨S, hS⟩ : ∃ S, stK.getD kk [] = S := ⟨_, rfl⟩
      rw [hS] at sa ⊢
      have q0 : (w.alloc (.cells #[.string (ByteArray.mk #[]), .string (ByteArray.mk #[104, 103, 99, 113, 120]), .string (ByteArray.mk #[104, 103, 99, 113, 112, 100]), .string (ByteArray.mk #[104, 103, 99, 113, 112, 120]), .string (ByteArray.mk #[104, 103, 112]), .string (ByteArray.mk #[104, 103, 112]), .string (ByteArray.mk #[104, 103, 118]), .string (ByteArray.mk #[98, 115]), .string (ByteArray.mk #[98, 115, 120]), .string (ByteArray.mk #[98, 115, 120]), .string (ByteArray.mk #[98, 115]), .string (ByteArray.mk #[98]), .string (ByteArray.mk #[115, 120]), .string (ByteArray.mk #[115]), .string (ByteArray.mk #[99, 113, 112]), .string (ByteArray.mk #[104, 103, 99, 113, 112, 100, 120]), .string (ByteArray.mk #[104, 103, 99, 113, 112, 100]), .string (ByteArray.mk #[99, 113, 112, 100]), .string (ByteArray.mk #[98, 115])] 9)).cell? ⟨w.heap.size, kk, none⟩ = some (.string (ByteArray.mk S.toArray)) := (NB.rw_new w stV 9 rfl).cell kk _ sa
      have h1' : (1 : Int) ≤ (kk : Int) := by omega
      have h2' : (kk : Int) ≤ 18 := by omega
      clear sa hS hk
      go_enter Tryd.func29, Tryd.ntmps29
      go_wp2_with fail
      go_ret
      exact ⟨rfl, oneB _ _⟩

set_option maxRecDepth 100000 in
set_option maxHeartbeats 2000000 in
theorem rin_any (w : World) (S : List UInt8) (c : UInt8) (hS : S.length ≤ 1000) :
    Calls Tryd.prog 40 #[.string (ByteArray.mk S.toArray), .int .u8 (c.toNat : Int)] w fun e w' => e = .returned (.bool (S.any (· == c))) ∧ w' = w := by
  obtain ⟨V, hV⟩ : ∃ V, S.any (· == c) = V := ⟨_, rfl⟩
  rw [hV]
  have HV := Go.Lib.hid hV
  clear hV
  go_enter Tryd.func40, Tryd.ntmps40
  go_wp2_with fail
  go_loop [5] (fun y => ∃ i : Nat, i ≤ S.length ∧ (S.take i).any (· == c) = false ∧ y = .int .i64 (i : Int)) (fun y => S.length - (intOf y).toNat)
  case atStart => exact ⟨0, by omega, rfl, rfl⟩
  case round =>
    obtain ⟨i, hi, hn, rfl⟩ := hrel
    have HN := Go.Lib.hid hn
    clear hn
    by_cases hlt : i < S.length
    case neg =>
      have hli : ¬ (i : Int) < (S.length : Int) := by omega
      have hv : V = false := by
        have := HN.out
        rw [List.take_of_length_le (by omega)] at this
        rw [← HV.out, this]
      have HV2 := Go.Lib.hid hv
      clear hv
      go_wp2_with fail
      go_ret
      exact ⟨by rw [HV2.out]; rfl, rfl⟩
    have hli : (i : Int) < (S.length : Int) := by omega
    have htk : S.take (i + 1) = S.take i ++ [S[i]] := by rw [List.take_add_one, List.getElem?_eq_getElem hlt]; rfl
    have HTK := Go.Lib.hid htk
    clear htk
    have hgi : ∀ h, (ByteArray.mk S.toArray)[i]'h = S[i] := fun _ => rfl
    by_cases he : S[i] = c
    · have hb : ((S[i].toNat : Int) == (c.toNat : Int)) = true := by rw [byte_eqr, he]; simp
      have hv : V = true := by
        rw [← HV.out]
        exact List.any_eq_true.2 ⟨S[i], List.getElem_mem _, by rw [he]; simp⟩
      have HV2 := Go.Lib.hid hv
      have HE := Go.Lib.hid he
      clear hv he
      go_wp2_with fail
      go_ret
      exact ⟨by rw [HV2.out]; rfl, rfl⟩
    · have hb : ((S[i].toNat : Int) == (c.toNat : Int)) = false := by rw [byte_eqr, beq_false_of_ne he]
      have hnx : (S.take (i + 1)).any (· == c) = false := by rw [HTK.out, List.any_append, HN.out]; simp [he]
      have HNX := Go.Lib.hid hnx
      clear hnx he
      go_wp2_with fail
      go_round
      case rel => exact ⟨i + 1, by omega, HNX.out, by go_num⟩
      case measure => simp [intOf]; omega


def numR (m : Mm) (f : Nat) : Nat := if f < 8 then natF m f else if f = 8 then m.vec.length else m.body.length


set_option maxRecDepth 100000 in
set_option maxHeartbeats 2000000 in
theorem rnum_0 (w : World) (m : Mm) (av : Option Addr) (cv : Nat) (hv : m.vec.length ≤ 100000) (hb : m.body.length ≤ 100000) (hok : 0 < 8 → okFl 0 m) :
    Calls Tryd.prog 41 #[.agg #[.int .i64 m.kind, .int .u64 (m.ballot : Int), .int .u64 (m.slot : Int), .int .i64 m.shard, .int .i64 m.seg, .int .u64 (m.client : Int), .int .u64 (m.seq : Int), .int .u64 (m.pos : Int), .int .i64 m.code, .slice av m.vec.length cv, .string (ByteArray.mk m.body.toArray)], .int .u8 98] w fun e w' => e = .returned (.int .u64 (numR m 0 : Int)) ∧ Below w.heap.size w w' := by
  show Calls _ _ _ _ fun e w' => e = .returned (.int .u64 (m.ballot : Int)) ∧ _
  go_enter Tryd.func41, Tryd.ntmps41
  go_wp2_with fail
  go_ret
  exact ⟨rfl, oneB _ _⟩

set_option maxRecDepth 100000 in
set_option maxHeartbeats 2000000 in
theorem rnum_1 (w : World) (m : Mm) (av : Option Addr) (cv : Nat) (hv : m.vec.length ≤ 100000) (hb : m.body.length ≤ 100000) (hok : 1 < 8 → okFl 1 m) :
    Calls Tryd.prog 41 #[.agg #[.int .i64 m.kind, .int .u64 (m.ballot : Int), .int .u64 (m.slot : Int), .int .i64 m.shard, .int .i64 m.seg, .int .u64 (m.client : Int), .int .u64 (m.seq : Int), .int .u64 (m.pos : Int), .int .i64 m.code, .slice av m.vec.length cv, .string (ByteArray.mk m.body.toArray)], .int .u8 115] w fun e w' => e = .returned (.int .u64 (numR m 1 : Int)) ∧ Below w.heap.size w w' := by
  show Calls _ _ _ _ fun e w' => e = .returned (.int .u64 (m.slot : Int)) ∧ _
  go_enter Tryd.func41, Tryd.ntmps41
  go_wp2_with fail
  go_ret
  exact ⟨rfl, oneB _ _⟩

set_option maxRecDepth 100000 in
set_option maxHeartbeats 2000000 in
theorem rnum_2 (w : World) (m : Mm) (av : Option Addr) (cv : Nat) (hv : m.vec.length ≤ 100000) (hb : m.body.length ≤ 100000) (hok : 2 < 8 → okFl 2 m) :
    Calls Tryd.prog 41 #[.agg #[.int .i64 m.kind, .int .u64 (m.ballot : Int), .int .u64 (m.slot : Int), .int .i64 m.shard, .int .i64 m.seg, .int .u64 (m.client : Int), .int .u64 (m.seq : Int), .int .u64 (m.pos : Int), .int .i64 m.code, .slice av m.vec.length cv, .string (ByteArray.mk m.body.toArray)], .int .u8 104] w fun e w' => e = .returned (.int .u64 (numR m 2 : Int)) ∧ Below w.heap.size w w' := by
  have hok := hok (by omega)
  simp only [okFl] at hok
  have hw : IntKind.u64.wrap m.shard = m.shard := IntWalk.u64_in _ ⟨by omega, by omega⟩
  have hn : ((numR m 2 : Nat) : Int) = m.shard := by show ((m.shard.toNat : Nat) : Int) = m.shard; omega
  rw [hn]
  clear hn
  go_enter Tryd.func41, Tryd.ntmps41
  go_wp2_with fail
  go_ret
  exact ⟨rfl, oneB _ _⟩

set_option maxRecDepth 100000 in
set_option maxHeartbeats 2000000 in
theorem rnum_3 (w : World) (m : Mm) (av : Option Addr) (cv : Nat) (hv : m.vec.length ≤ 100000) (hb : m.body.length ≤ 100000) (hok : 3 < 8 → okFl 3 m) :
    Calls Tryd.prog 41 #[.agg #[.int .i64 m.kind, .int .u64 (m.ballot : Int), .int .u64 (m.slot : Int), .int .i64 m.shard, .int .i64 m.seg, .int .u64 (m.client : Int), .int .u64 (m.seq : Int), .int .u64 (m.pos : Int), .int .i64 m.code, .slice av m.vec.length cv, .string (ByteArray.mk m.body.toArray)], .int .u8 103] w fun e w' => e = .returned (.int .u64 (numR m 3 : Int)) ∧ Below w.heap.size w w' := by
  have hok := hok (by omega)
  simp only [okFl] at hok
  have hw : IntKind.u64.wrap m.seg = m.seg := IntWalk.u64_in _ ⟨by omega, by omega⟩
  have hn : ((numR m 3 : Nat) : Int) = m.seg := by show ((m.seg.toNat : Nat) : Int) = m.seg; omega
  rw [hn]
  clear hn
  go_enter Tryd.func41, Tryd.ntmps41
  go_wp2_with fail
  go_ret
  exact ⟨rfl, oneB _ _⟩

set_option maxRecDepth 100000 in
set_option maxHeartbeats 2000000 in
theorem rnum_4 (w : World) (m : Mm) (av : Option Addr) (cv : Nat) (hv : m.vec.length ≤ 100000) (hb : m.body.length ≤ 100000) (hok : 4 < 8 → okFl 4 m) :
    Calls Tryd.prog 41 #[.agg #[.int .i64 m.kind, .int .u64 (m.ballot : Int), .int .u64 (m.slot : Int), .int .i64 m.shard, .int .i64 m.seg, .int .u64 (m.client : Int), .int .u64 (m.seq : Int), .int .u64 (m.pos : Int), .int .i64 m.code, .slice av m.vec.length cv, .string (ByteArray.mk m.body.toArray)], .int .u8 99] w fun e w' => e = .returned (.int .u64 (numR m 4 : Int)) ∧ Below w.heap.size w w' := by
  show Calls _ _ _ _ fun e w' => e = .returned (.int .u64 (m.client : Int)) ∧ _
  go_enter Tryd.func41, Tryd.ntmps41
  go_wp2_with fail
  go_ret
  exact ⟨rfl, oneB _ _⟩

set_option maxRecDepth 100000 in
set_option maxHeartbeats 2000000 in
theorem rnum_5 (w : World) (m : Mm) (av : Option Addr) (cv : Nat) (hv : m.vec.length ≤ 100000) (hb : m.body.length ≤ 100000) (hok : 5 < 8 → okFl 5 m) :
    Calls Tryd.prog 41 #[.agg #[.int .i64 m.kind, .int .u64 (m.ballot : Int), .int .u64 (m.slot : Int), .int .i64 m.shard, .int .i64 m.seg, .int .u64 (m.client : Int), .int .u64 (m.seq : Int), .int .u64 (m.pos : Int), .int .i64 m.code, .slice av m.vec.length cv, .string (ByteArray.mk m.body.toArray)], .int .u8 113] w fun e w' => e = .returned (.int .u64 (numR m 5 : Int)) ∧ Below w.heap.size w w' := by
  show Calls _ _ _ _ fun e w' => e = .returned (.int .u64 (m.seq : Int)) ∧ _
  go_enter Tryd.func41, Tryd.ntmps41
  go_wp2_with fail
  go_ret
  exact ⟨rfl, oneB _ _⟩

set_option maxRecDepth 100000 in
set_option maxHeartbeats 2000000 in
theorem rnum_6 (w : World) (m : Mm) (av : Option Addr) (cv : Nat) (hv : m.vec.length ≤ 100000) (hb : m.body.length ≤ 100000) (hok : 6 < 8 → okFl 6 m) :
    Calls Tryd.prog 41 #[.agg #[.int .i64 m.kind, .int .u64 (m.ballot : Int), .int .u64 (m.slot : Int), .int .i64 m.shard, .int .i64 m.seg, .int .u64 (m.client : Int), .int .u64 (m.seq : Int), .int .u64 (m.pos : Int), .int .i64 m.code, .slice av m.vec.length cv, .string (ByteArray.mk m.body.toArray)], .int .u8 112] w fun e w' => e = .returned (.int .u64 (numR m 6 : Int)) ∧ Below w.heap.size w w' := by
  show Calls _ _ _ _ fun e w' => e = .returned (.int .u64 (m.pos : Int)) ∧ _
  go_enter Tryd.func41, Tryd.ntmps41
  go_wp2_with fail
  go_ret
  exact ⟨rfl, oneB _ _⟩

set_option maxRecDepth 100000 in
set_option maxHeartbeats 2000000 in
theorem rnum_7 (w : World) (m : Mm) (av : Option Addr) (cv : Nat) (hv : m.vec.length ≤ 100000) (hb : m.body.length ≤ 100000) (hok : 7 < 8 → okFl 7 m) :
    Calls Tryd.prog 41 #[.agg #[.int .i64 m.kind, .int .u64 (m.ballot : Int), .int .u64 (m.slot : Int), .int .i64 m.shard, .int .i64 m.seg, .int .u64 (m.client : Int), .int .u64 (m.seq : Int), .int .u64 (m.pos : Int), .int .i64 m.code, .slice av m.vec.length cv, .string (ByteArray.mk m.body.toArray)], .int .u8 100] w fun e w' => e = .returned (.int .u64 (numR m 7 : Int)) ∧ Below w.heap.size w w' := by
  have hok := hok (by omega)
  simp only [okFl] at hok
  have hw : IntKind.u64.wrap m.code = m.code := IntWalk.u64_in _ ⟨by omega, by omega⟩
  have hn : ((numR m 7 : Nat) : Int) = m.code := by show ((m.code.toNat : Nat) : Int) = m.code; omega
  rw [hn]
  clear hn
  go_enter Tryd.func41, Tryd.ntmps41
  go_wp2_with fail
  go_ret
  exact ⟨rfl, oneB _ _⟩

set_option maxRecDepth 100000 in
set_option maxHeartbeats 2000000 in
theorem rnum_8 (w : World) (m : Mm) (av : Option Addr) (cv : Nat) (hv : m.vec.length ≤ 100000) (hb : m.body.length ≤ 100000) (hok : 8 < 8 → okFl 8 m) :
    Calls Tryd.prog 41 #[.agg #[.int .i64 m.kind, .int .u64 (m.ballot : Int), .int .u64 (m.slot : Int), .int .i64 m.shard, .int .i64 m.seg, .int .u64 (m.client : Int), .int .u64 (m.seq : Int), .int .u64 (m.pos : Int), .int .i64 m.code, .slice av m.vec.length cv, .string (ByteArray.mk m.body.toArray)], .int .u8 118] w fun e w' => e = .returned (.int .u64 (numR m 8 : Int)) ∧ Below w.heap.size w w' := by
  have hw : IntKind.u64.wrap (m.vec.length : Int) = (m.vec.length : Int) := IntWalk.u64_in _ ⟨by omega, by omega⟩
  show Calls _ _ _ _ fun e w' => e = .returned (.int .u64 (m.vec.length : Int)) ∧ _
  go_enter Tryd.func41, Tryd.ntmps41
  go_wp2_with fail
  go_ret
  exact ⟨rfl, oneB _ _⟩

set_option maxRecDepth 100000 in
set_option maxHeartbeats 2000000 in
theorem rnum_9 (w : World) (m : Mm) (av : Option Addr) (cv : Nat) (hv : m.vec.length ≤ 100000) (hb : m.body.length ≤ 100000) (hok : 9 < 8 → okFl 9 m) :
    Calls Tryd.prog 41 #[.agg #[.int .i64 m.kind, .int .u64 (m.ballot : Int), .int .u64 (m.slot : Int), .int .i64 m.shard, .int .i64 m.seg, .int .u64 (m.client : Int), .int .u64 (m.seq : Int), .int .u64 (m.pos : Int), .int .i64 m.code, .slice av m.vec.length cv, .string (ByteArray.mk m.body.toArray)], .int .u8 120] w fun e w' => e = .returned (.int .u64 (numR m 9 : Int)) ∧ Below w.heap.size w w' := by
  have hw : IntKind.u64.wrap (m.body.length : Int) = (m.body.length : Int) := IntWalk.u64_in _ ⟨by omega, by omega⟩
  show Calls _ _ _ _ fun e w' => e = .returned (.int .u64 (m.body.length : Int)) ∧ _
  go_enter Tryd.func41, Tryd.ntmps41
  go_wp2_with fail
  go_ret
  exact ⟨rfl, oneB _ _⟩
end Go.Proofs.YtadgokegjmigoaaDoor
namespace Go.Proofs.YtadgokegjmigoaaDoor
open Go.RowKit Go.Shelf
open Go.NB (Rd Kp Stp Off Dis oneB dB Rw RdU Lp Rr encU encB digs)

set_option maxHeartbeats 1000000 in
theorem rnum_any (w : World) (m : Mm) (av : Option Addr) (cv : Nat) (hv : m.vec.length ≤ 100000) (hb : m.body.length ≤ 100000) (f : Nat) (hf : f < 10) (hok : f < 8 → okFl f m) :
    Calls Tryd.prog 41 #[.agg #[.int .i64 m.kind, .int .u64 (m.ballot : Int), .int .u64 (m.slot : Int), .int .i64 m.shard, .int .i64 m.seg, .int .u64 (m.client : Int), .int .u64 (m.seq : Int), .int .u64 (m.pos : Int), .int .i64 m.code, .slice av m.vec.length cv, .string (ByteArray.mk m.body.toArray)], .int .u8 ((ltrs.getD f 0).toNat : Int)] w fun e w' => e = .returned (.int .u64 (numR m f : Int)) ∧ Below w.heap.size w w' := by
  have hcs : f = 0 ∨ f = 1 ∨ f = 2 ∨ f = 3 ∨ f = 4 ∨ f = 5 ∨ f = 6 ∨ f = 7 ∨ f = 8 ∨ f = 9 := by omega
  rcases hcs with rfl | rfl | rfl | rfl | rfl | rfl | rfl | rfl | rfl | rfl
  · exact rnum_0 w m av cv hv hb hok
  · exact rnum_1 w m av cv hv hb hok
  · exact rnum_2 w m av cv hv hb hok
  · exact rnum_3 w m av cv hv hb hok
  · exact rnum_4 w m av cv hv hb hok
  · exact rnum_5 w m av cv hv hb hok
  · exact rnum_6 w m av cv hv hb hok
  · exact rnum_7 w m av cv hv hb hok
  · exact rnum_8 w m av cv hv hb hok
  · exact rnum_9 w m av cv hv hb hok
theorem ltr_in : ∀ k, k < 19 → 1 ≤ k → ∀ f, f < 10 → (stK.getD k []).any (· == ltrs.getD f 0) = (flds k).contains f := by decide +kernel
theorem has_num (m : Mm) (f : Nat) (hf : f < 10) (hok : ∀ g, g < 8 → okFl g m) : hasF m f = (numR m f != 0) := by
  have hcs : f = 0 ∨ f = 1 ∨ f = 2 ∨ f = 3 ∨ f = 4 ∨ f = 5 ∨ f = 6 ∨ f = 7 ∨ f = 8 ∨ f = 9 := by omega
  have o2 := hok 2 (by omega); have o3 := hok 3 (by omega); have o7 := hok 7 (by omega)
  simp only [okFl] at o2 o3 o7
  rcases hcs with rfl | rfl | rfl | rfl | rfl | rfl | rfl | rfl | rfl | rfl
  all_goals (rw [Bool.eq_iff_iff]; simp [hasF, numR, natF])
  all_goals omega
theorem fieldsM_len : ∀ k, k < 19 → (stK.getD k []).length ≤ 7 := by decide

set_option maxRecDepth 100000 in
set_option maxHeartbeats 8000000 in
theorem rcheck_any (w : World) (m : Mm) (av : Option Addr) (cv : Nat) (hv : m.vec.length ≤ 100000) (hb : m.body.length ≤ 100000) (hwf : WfM m) (hcv : cv ≤ 9223372036854775807) :
    Calls Tryd.prog 18 #[.agg #[.int .i64 m.kind, .int .u64 (m.ballot : Int), .int .u64 (m.slot : Int), .int .i64 m.shard, .int .i64 m.seg, .int .u64 (m.client : Int), .int .u64 (m.seq : Int), .int .u64 (m.pos : Int), .int .i64 m.code, .slice av m.vec.length cv, .string (ByteArray.mk m.body.toArray)]] w fun e w' => e = .returned (.int .i64 (mcheckM m)) ∧ Below w.heap.size w w' := by
  obtain ⟨Q, hQ⟩ : ∃ Q, mcheckM m = Q := ⟨_, rfl⟩
  rw [hQ]
  have HQ := Go.Lib.hid hQ
  clear hQ
  have ob := oneB w (.cells #[.int .i64 m.kind, .int .u64 (m.ballot : Int), .int .u64 (m.slot : Int), .int .i64 m.shard, .int .i64 m.seg, .int .u64 (m.client : Int), .int .u64 (m.seq : Int), .int .u64 (m.pos : Int), .int .i64 m.code, .slice av m.vec.length cv, .string (ByteArray.mk m.body.toArray)] 36)
  have r1 : Rw (w.alloc (.cells #[.int .i64 m.kind, .int .u64 (m.ballot : Int), .int .u64 (m.slot : Int), .int .i64 m.shard, .int .i64 m.seg, .int .u64 (m.client : Int), .int .u64 (m.seq : Int), .int .u64 (m.pos : Int), .int .i64 m.code, .slice av m.vec.length cv, .string (ByteArray.mk m.body.toArray)] 36)) w.heap.size [.int .i64 m.kind, .int .u64 (m.ballot : Int), .int .u64 (m.slot : Int), .int .i64 m.shard, .int .i64 m.seg, .int .u64 (m.client : Int), .int .u64 (m.seq : Int), .int .u64 (m.pos : Int), .int .i64 m.code, .slice av m.vec.length cv, .string (ByteArray.mk m.body.toArray)] 36 := NB.rw_new w [.int .i64 m.kind, .int .u64 (m.ballot : Int), .int .u64 (m.slot : Int), .int .i64 m.shard, .int .i64 m.seg, .int .u64 (m.client : Int), .int .u64 (m.seq : Int), .int .u64 (m.pos : Int), .int .i64 m.code, .slice av m.vec.length cv, .string (ByteArray.mk m.body.toArray)] 36 rfl
  go_enter Tryd.func18, Tryd.ntmps18
  go_wp2_with fail
  refine (rfields_any _ m.kind).mono ?_
  rintro e w1 ⟨rfl, hb1⟩
  have B1 := NB.bel ob hb1 ob.size
  have r2 := r1.below hb1
  have d3 := r2.cell 3 _ rfl
  have d4 := r2.cell 4 _ rfl
  have d8 := r2.cell 8 _ rfl
  have d9 := r2.cell 9 _ rfl
  have d10 := r2.cell 10 _ rfl
  clear ob r1 hb1
  by_cases hk : known m.kind = true
  case neg =>
    have hf : fieldsM m.kind = [] := by unfold fieldsM; rw [if_neg hk]
    have hq : Q = 1 := by rw [← HQ.out]; unfold mcheckM mcheckB; rw [if_neg (by simp [hk])]
    rw [hf]
    have HQ1 := Go.Lib.hid hq
    clear hq hf hk
    go_wp2_with fail
    go_ret
    exact ⟨by rw [HQ1.out]; rfl, B1⟩
  have hkk := known_iff.1 hk
  obtain ⟨kk, hkn⟩ := Int.eq_ofNat_of_zero_le (show 0 ≤ m.kind by omega)
  have hf : fieldsM m.kind = stK.getD kk [] := by unfold fieldsM; rw [if_pos hk, hkn]; rfl
  have hfl := fieldsM_len kk (by omega)
  have hin := ltr_in kk (by omega) (by omega)
  have hne : ¬ stK.getD kk [] = [] := by
    have : ∀ k, k < 19 → 1 ≤ k → ¬ stK.getD k [] = [] := by decide
    exact this kk (by omega) (by omega)
  rw [hf]
  obtain ⟨S, hS⟩ : ∃ S, stK.getD kk [] = S := ⟨_, rfl⟩
  rw [hS] at hfl hin hne ⊢
  have hem : (ByteArray.mk S.toArray == ByteArray.mk #[]) = false := by
    have : (S.toArray == #[]) = false := by
      rw [beq_eq_false_iff_ne]
      intro e
      exact hne (by simpa using congrArg Array.toList e)
    show (S.toArray == #[]) = false
    exact this
  have hem2 : (S == []) = false := beq_eq_false_iff_ne.2 hne
  have HIN := Go.Lib.hid hin
  have HKK := Go.Lib.hid (show kk < 19 ∧ 1 ≤ kk by omega)
  have HKN := Go.Lib.hid hkn
  clear hf hS hin hkk hk hkn
  by_cases g0 : 0 ≤ m.shard
  case neg =>
    have hq : Q = 1 := by rw [← HQ.out]; unfold mcheckM mcheckB limB; rw [if_neg (by simp; intros; omega)]
    have HQ1 := Go.Lib.hid hq
    have g' : m.shard < 0 := by omega
    clear hq
    go_wp2_with fail
    go_ret
    exact ⟨by rw [HQ1.out]; rfl, B1⟩
  by_cases g1 : m.shard ≤ 7
  case neg =>
    have hq : Q = 1 := by rw [← HQ.out]; unfold mcheckM mcheckB limB; rw [if_neg (by simp; intros; omega)]
    have HQ1 := Go.Lib.hid hq
    have g' : 7 < m.shard := by omega
    clear hq
    go_wp2_with fail
    go_ret
    exact ⟨by rw [HQ1.out]; rfl, B1⟩
  by_cases g2 : 0 ≤ m.seg
  case neg =>
    have hq : Q = 1 := by rw [← HQ.out]; unfold mcheckM mcheckB limB; rw [if_neg (by simp; intros; omega)]
    have HQ1 := Go.Lib.hid hq
    have g' : m.seg < 0 := by omega
    clear hq
    go_wp2_with fail
    go_ret
    exact ⟨by rw [HQ1.out]; rfl, B1⟩
  by_cases g3 : m.seg ≤ 3
  case neg =>
    have hq : Q = 1 := by rw [← HQ.out]; unfold mcheckM mcheckB limB; rw [if_neg (by simp; intros; omega)]
    have HQ1 := Go.Lib.hid hq
    have g' : 3 < m.seg := by omega
    clear hq
    go_wp2_with fail
    go_ret
    exact ⟨by rw [HQ1.out]; rfl, B1⟩
  by_cases g4 : 0 ≤ m.code
  case neg =>
    have hq : Q = 1 := by rw [← HQ.out]; unfold mcheckM mcheckB limB; rw [if_neg (by simp; intros; omega)]
    have HQ1 := Go.Lib.hid hq
    have g' : m.code < 0 := by omega
    clear hq
    go_wp2_with fail
    go_ret
    exact ⟨by rw [HQ1.out]; rfl, B1⟩
  by_cases g5 : m.code ≤ 255
  case neg =>
    have hq : Q = 1 := by rw [← HQ.out]; unfold mcheckM mcheckB limB; rw [if_neg (by simp; intros; omega)]
    have HQ1 := Go.Lib.hid hq
    have g' : 255 < m.code := by omega
    clear hq
    go_wp2_with fail
    go_ret
    exact ⟨by rw [HQ1.out]; rfl, B1⟩
  by_cases g6 : m.vec.length ≤ 256
  case neg =>
    have hq : Q = 1 := by rw [← HQ.out]; unfold mcheckM mcheckB limB; rw [if_neg (by simp; intros; omega)]
    have HQ1 := Go.Lib.hid hq
    have g' : ((256 : Nat) : Int) < (m.vec.length : Int) := by omega
    have g'' : (256 : Int) < (m.vec.length : Int) := by omega
    clear hq
    go_wp2_with fail
    go_ret
    exact ⟨by rw [HQ1.out]; rfl, B1⟩
  have y0 : (m.vec.length : Int) ≤ 256 := by omega
  by_cases g7 : m.body.length ≤ 32768
  case neg =>
    have hq : Q = 1 := by rw [← HQ.out]; unfold mcheckM mcheckB limB; rw [if_neg (by simp; intros; omega)]
    have HQ1 := Go.Lib.hid hq
    have g' : ((32768 : Nat) : Int) < (m.body.length : Int) := by omega
    have g'' : (32768 : Int) < (m.body.length : Int) := by omega
    clear hq
    go_wp2_with fail
    go_ret
    exact ⟨by rw [HQ1.out]; rfl, B1⟩
  have y1 : (m.body.length : Int) ≤ 32768 := by omega
  have hok : ∀ g, g < 8 → okFl g m := fun g hg => by
    have hcs : g = 0 ∨ g = 1 ∨ g = 2 ∨ g = 3 ∨ g = 4 ∨ g = 5 ∨ g = 6 ∨ g = 7 := by omega
    rcases hcs with rfl | rfl | rfl | rfl | rfl | rfl | rfl | rfl <;> simp only [okFl] <;> first | exact hwf.ballot | exact hwf.slot | exact hwf.client | exact hwf.seq | exact hwf.pos | omega
  have hlim : limB m = true := by unfold limB; simp; omega
  have HOK := Go.Lib.hid hok
  have HLIM := Go.Lib.hid hlim
  clear hok hlim hwf
  go_wp2_with fail
  go_loopw [5] (fun y wr => ∃ i : Nat, i ≤ 10 ∧ y = .int .i64 (i : Int) ∧ (∀ f, f < i → hasF m f = true → (flds kk).contains f = true) ∧ Below w.heap.size w wr ∧ Rw wr w.heap.size [.int .i64 m.kind, .int .u64 (m.ballot : Int), .int .u64 (m.slot : Int), .int .i64 m.shard, .int .i64 m.seg, .int .u64 (m.client : Int), .int .u64 (m.seq : Int), .int .u64 (m.pos : Int), .int .i64 m.code, .slice av m.vec.length cv, .string (ByteArray.mk m.body.toArray)] 36) (fun y _ => 10 - (intOf y).toNat)
  case atStart => exact ⟨0, by omega, rfl, fun f hf => absurd hf (by omega), B1, r2⟩
  case round =>
    clear B1 r2 d3 d4 d8 d9 d10
    obtain ⟨i, hi, rfl, hpre, B, r2⟩ := hrel
    have HPRE := Go.Lib.hid hpre
    clear hpre
    by_cases hlt : i < 10
    case neg =>
      have hli : ¬ (i : Int) < 10 := by omega
      obtain rfl : i = 10 := by omega
      have hq : Q = 0 := by
        have ho : onlyF m = true := by
          unfold onlyF
          rw [List.all_eq_true]
          intro f hf
          have hf := List.mem_range.1 hf
          have h3 : m.kind.toNat = kk := by rw [HKN.out]; rfl
          rw [h3]
          cases hh : hasF m f
          · rfl
          · rw [HPRE.out f hf hh]; rfl
        have hkn : known m.kind = true := by rw [HKN.out, known_iff]; have := HKK.out; omega
        rw [← HQ.out]; unfold mcheckM mcheckB; rw [if_pos (by rw [hkn, ho, HLIM.out]; rfl)]
      have HQ1 := Go.Lib.hid hq
      clear hq
      go_wp2_with fail
      go_ret
      exact ⟨by rw [HQ1.out]; rfl, B⟩
    have hli : (i : Int) < 10 := by omega
    have hli0 : (0 : Int) ≤ (i : Int) := by omega
    obtain ⟨L, hL⟩ : ∃ L, ltrs.getD i 0 = L := ⟨_, rfl⟩
    have hidx : ∀ h, (ByteArray.mk #[98, 115, 104, 103, 99, 113, 112, 100, 118, 120])[i]'h = L := fun h => by
      rw [← hL]
      have hcs : i = 0 ∨ i = 1 ∨ i = 2 ∨ i = 3 ∨ i = 4 ∨ i = 5 ∨ i = 6 ∨ i = 7 ∨ i = 8 ∨ i = 9 := by omega
      rcases hcs with rfl | rfl | rfl | rfl | rfl | rfl | rfl | rfl | rfl | rfl <;> rfl
    have hcon := HIN.out i hlt
    have num := fun W => rnum_any W m av cv hv hb i hlt (fun h => HOK.out i h)
    rw [hL] at hcon num
    have hasn := has_num m i hlt (fun g hg => HOK.out g hg)
    have NUM := Go.Lib.hid num
    have HCON := Go.Lib.hid hcon
    have HASN := Go.Lib.hid hasn
    clear hL hcon num hasn
    have hin := rin_any wr S L (by omega)
    rw [HCON.out] at hin
    have HIN2 := Go.Lib.hid hin
    clear hin
    go_wp2_with fail
    refine HIN2.out.mono ?_
    rintro e w7 ⟨rfl, e7⟩
    subst w7
    have B8 := B.drew
    have z1 := r2.below (dB wr)
    cases hc : (flds kk).contains i
    · have HC := Go.Lib.hid hc
      clear hc
      go_wp2_with fail
      refine NB.wp_region_t [] (by kernel_rfl) ?_
      generalize wr.drew = w8 at *
      by_cases hn : numR m i = 0
      · have hnx : ∀ f, f < i + 1 → hasF m f = true → (flds kk).contains f = true := fun f hf hh => by
          by_cases h : f < i
          · exact HPRE.out f h hh
          · obtain rfl : f = i := by omega
            rw [HASN.out, hn] at hh
            exact absurd hh (by decide)
        have HNX := Go.Lib.hid hnx
        clear hnx
        have hnb : ((numR m i : Int) != 0) = false := by rw [hn]; rfl
        refine NB.t_p 0 rfl (by kernel_rfl) (fun K hK => ?_); go_simp; refine hK _ ?_; clear hK K
        refine NB.t_p 1 rfl (by kernel_rfl) (fun K hK => ?_); go_simp; refine hK _ ?_; clear hK K
        refine NB.t_p 2 rfl (by kernel_rfl) (fun K hK => ?_); go_simp; refine hK _ ?_; clear hK K
        refine NB.t_r 3 [7, 8, 9] rfl (by kernel_rfl) (by kernel_rfl) (by go_simp) _ (fun w' hw' => NB.run_op_load_agg (off := 0) (m := 11) rfl rfl Tryd.underlying36 rfl _ _ _ z1 (by kernel_rfl) (Nat.le_refl _) _ rfl hw') (fun K hK => ?_); go_simp; refine hK _ ?_; clear hK K
        refine NB.t_p 4 rfl (by kernel_rfl) (fun K hK => ?_); go_simp; refine hK _ ?_; clear hK K
        refine NB.t_p 5 rfl (by kernel_rfl) (fun K hK => ?_); go_simp; refine hK _ ?_; clear hK K
        refine NB.t_p 6 rfl (by kernel_rfl) (fun K hK => ?_); go_simp; refine hK _ ?_; clear hK K
        refine NB.t_e 7 rfl (by kernel_rfl) (by kernel_rfl) (fun K hK => ?_); unfold NB.tmoves; go_simp; refine (NUM.out w8).mono ?_; rintro e w9 ⟨rfl, hb9⟩; refine ⟨_, rfl, hb9, hK _ _ ?_⟩; clear hK K
        refine NB.t_p 8 rfl (by kernel_rfl) (fun K hK => ?_); go_simp; refine hK _ ?_; clear hK K
        refine NB.t_p 9 rfl (by kernel_rfl) (fun K hK => ?_); go_simp; refine hK _ ?_; clear hK K
        refine NB.t_end (by kernel_rfl) ?_
        have B9 := NB.bel B8 hb9 B8.size
        have z2 := z1.below hb9
        go_wp2_with fail
        go_round
        case rel => exact ⟨i + 1, by omega, by go_num, HNX.out, B9, z2⟩
        case measure => simp [intOf]; omega
      · have hq : Q = 1 := by
          rw [← HQ.out]; unfold mcheckM mcheckB
          have ho : onlyF m = false := by
            rw [Bool.eq_false_iff]
            intro ho
            unfold onlyF at ho
            rw [List.all_eq_true] at ho
            have := ho i (List.mem_range.2 hlt)
            have h3 : m.kind.toNat = kk := by rw [HKN.out]; rfl
            rw [h3, HC.out, HASN.out] at this
            simp [hn] at this
          rw [ho, if_neg (by simp)]
        have HQ1 := Go.Lib.hid hq
        clear hq
        have hnb : ((numR m i : Int) != 0) = true := by rw [bne_iff_ne]; omega
        refine NB.t_p 0 rfl (by kernel_rfl) (fun K hK => ?_); go_simp; refine hK _ ?_; clear hK K
        refine NB.t_p 1 rfl (by kernel_rfl) (fun K hK => ?_); go_simp; refine hK _ ?_; clear hK K
        refine NB.t_p 2 rfl (by kernel_rfl) (fun K hK => ?_); go_simp; refine hK _ ?_; clear hK K
        refine NB.t_r 3 [7, 8, 9] rfl (by kernel_rfl) (by kernel_rfl) (by go_simp) _ (fun w' hw' => NB.run_op_load_agg (off := 0) (m := 11) rfl rfl Tryd.underlying36 rfl _ _ _ z1 (by kernel_rfl) (Nat.le_refl _) _ rfl hw') (fun K hK => ?_); go_simp; refine hK _ ?_; clear hK K
        refine NB.t_p 4 rfl (by kernel_rfl) (fun K hK => ?_); go_simp; refine hK _ ?_; clear hK K
        refine NB.t_p 5 rfl (by kernel_rfl) (fun K hK => ?_); go_simp; refine hK _ ?_; clear hK K
        refine NB.t_p 6 rfl (by kernel_rfl) (fun K hK => ?_); go_simp; refine hK _ ?_; clear hK K
        refine NB.t_e 7 rfl (by kernel_rfl) (by kernel_rfl) (fun K hK => ?_); unfold NB.tmoves; go_simp; refine (NUM.out w8).mono ?_; rintro e w9 ⟨rfl, hb9⟩; refine ⟨_, rfl, hb9, hK _ _ ?_⟩; clear hK K
        refine NB.t_p 8 rfl (by kernel_rfl) (fun K hK => ?_); go_simp; refine hK _ ?_; clear hK K
        refine NB.t_p 9 rfl (by kernel_rfl) (fun K hK => ?_); go_simp; refine hK _ ?_; clear hK K
        refine NB.t_end (by kernel_rfl) ?_
        have B9 := NB.bel B8 hb9 B8.size
        go_wp2_with fail
        go_ret
        exact ⟨by rw [HQ1.out]; rfl, B9⟩
    · have HC := Go.Lib.hid hc
      clear hc
      have hnx : ∀ f, f < i + 1 → hasF m f = true → (flds kk).contains f = true := fun f hf hh => by
        by_cases h : f < i
        · exact HPRE.out f h hh
        · obtain rfl : f = i := by omega
          exact HC.out
      have HNX := Go.Lib.hid hnx
      clear hnx
      go_wp2_with fail
      refine NB.wp_region_t [] (by kernel_rfl) ?_
      generalize wr.drew = w8 at *
      refine NB.t_p 0 rfl (by kernel_rfl) (fun K hK => ?_); go_simp; refine hK _ ?_; clear hK K
      refine NB.t_p 1 rfl (by kernel_rfl) (fun K hK => ?_); go_simp; refine hK _ ?_; clear hK K
      refine NB.t_p 2 rfl (by kernel_rfl) (fun K hK => ?_); go_simp; refine hK _ ?_; clear hK K
      refine NB.t_p 3 rfl (by kernel_rfl) (fun K hK => ?_); go_simp; refine hK _ ?_; clear hK K
      refine NB.t_p 4 rfl (by kernel_rfl) (fun K hK => ?_); go_simp; refine hK _ ?_; clear hK K
      refine NB.t_p 5 rfl (by kernel_rfl) (fun K hK => ?_); go_simp; refine hK _ ?_; clear hK K
      refine NB.t_p 6 rfl (by kernel_rfl) (fun K hK => ?_); go_simp; refine hK _ ?_; clear hK K
      refine NB.t_p 7 rfl (by kernel_rfl) (fun K hK => ?_); go_simp; refine hK _ ?_; clear hK K
      refine NB.t_p 8 rfl (by kernel_rfl) (fun K hK => ?_); go_simp; refine hK _ ?_; clear hK K
      refine NB.t_p 9 rfl (by kernel_rfl) (fun K hK => ?_); go_simp; refine hK _ ?_; clear hK K
      refine NB.t_end (by kernel_rfl) ?_
      go_wp2_with fail
      go_round
      case rel => exact ⟨i + 1, by omega, by go_num, HNX.out, B8, z1⟩
      case measure => simp [intOf]; omega
end Go.Proofs.YtadgokegjmigoaaDoor
namespace Go.Proofs.YtadgokegjmigoaaDoor
open Go.RowKit Go.Shelf
open Go.NB (Rd Kp Stp Off Dis oneB dB Rw RdU Lp Rr encU encB digs)

theorem pre_len (m : Mm) (h : ∀ g < 10, okFl g m) (F : List Nat) (hF : flds m.kind.toNat = F) (i : Nat) : ((F.take i).flatMap (encFl m)).length ≤ 40000 := by
  have h1 := body_len m h
  unfold bodyL at h1
  rw [hF] at h1
  have h2 : (F.flatMap (encFl m)).length = ((F.take i).flatMap (encFl m)).length + ((F.drop i).flatMap (encFl m)).length := by
    rw [← List.length_append, ← List.flatMap_append, List.take_append_drop]
  omega
theorem ltr_small : ∀ f, f < 8 → (((ltrs.getD f 0).toNat : Int) == 120) = false ∧ (((ltrs.getD f 0).toNat : Int) == 118) = false := by decide
theorem numR_lt (m : Mm) (h : ∀ g < 10, okFl g m) (f : Nat) (hf : f < 10) : numR m f < 18446744073709551616 := by
  unfold numR
  split
  · exact natF_lt m f (by assumption) (h f hf)
  · have h8 := h 8 (by omega); have h9 := h 9 (by omega)
    simp only [okFl] at h8 h9
    split <;> omega

set_option maxRecDepth 100000 in
set_option maxHeartbeats 16000000 in
theorem rbody_any (w : World) (m : Mm) (av : Option Addr) (cv : Nat) (hok : ∀ g < 10, okFl g m) (hR : RdU w av m.vec.length cv m.vec) (hk : 1 ≤ m.kind ∧ m.kind ≤ 18) :
    Calls Tryd.prog 37 #[.agg #[.int .i64 m.kind, .int .u64 (m.ballot : Int), .int .u64 (m.slot : Int), .int .i64 m.shard, .int .i64 m.seg, .int .u64 (m.client : Int), .int .u64 (m.seq : Int), .int .u64 (m.pos : Int), .int .i64 m.code, .slice av m.vec.length cv, .string (ByteArray.mk m.body.toArray)]] w fun e w' => e = .returned (.string (ByteArray.mk (bodyL m).toArray)) ∧ Below w.heap.size w w' := by
  have o8 := hok 8 (by omega); have o9 := hok 9 (by omega)
  simp only [okFl] at o8 o9
  have hv : m.vec.length ≤ 256 := by omega
  have hb : m.body.length ≤ 32768 := by omega
  have hcb := Rd.bound hR.1
  obtain ⟨kk, hkn⟩ := Int.eq_ofNat_of_zero_le (show 0 ≤ m.kind by omega)
  have hf : fieldsM m.kind = stK.getD kk [] := by unfold fieldsM; rw [if_pos (by rw [known_iff]; exact hk), hkn]; rfl
  have hfl := fieldsM_len kk (by omega)
  have hst := stK_flds kk (by omega) (by omega)
  have hfF : ∀ f ∈ flds kk, f < 10 := (flds_fine kk).1
  have hkt : m.kind.toNat = kk := by rw [hkn]; rfl
  have hpl := pre_len m hok (flds kk) (by rw [hkt])
  have hbl : bodyL m = (flds kk).flatMap (encFl m) := by unfold bodyL; rw [hkt]
  rw [hbl]
  obtain ⟨F, hF⟩ : ∃ F, flds kk = F := ⟨_, rfl⟩
  obtain ⟨S, hS⟩ : ∃ S, stK.getD kk [] = S := ⟨_, rfl⟩
  rw [hF] at hst hfF hpl ⊢
  rw [hS] at hst hfl hf
  have hSF : S.length = F.length := by rw [hst, List.length_map]
  have HF := Go.Lib.hid hf
  have HST := Go.Lib.hid hst
  have HFF := Go.Lib.hid hfF
  have HPL := Go.Lib.hid hpl
  have HOK := Go.Lib.hid hok
  have HSF := Go.Lib.hid hSF
  clear hF hS hst hfF hpl hok hkt hbl hkn hk o8 o9 hf
  have ob := oneB w (.cells #[.int .i64 m.kind, .int .u64 (m.ballot : Int), .int .u64 (m.slot : Int), .int .i64 m.shard, .int .i64 m.seg, .int .u64 (m.client : Int), .int .u64 (m.seq : Int), .int .u64 (m.pos : Int), .int .i64 m.code, .slice av m.vec.length cv, .string (ByteArray.mk m.body.toArray)] 36)
  have r1 : Rw (w.alloc (.cells #[.int .i64 m.kind, .int .u64 (m.ballot : Int), .int .u64 (m.slot : Int), .int .i64 m.shard, .int .i64 m.seg, .int .u64 (m.client : Int), .int .u64 (m.seq : Int), .int .u64 (m.pos : Int), .int .i64 m.code, .slice av m.vec.length cv, .string (ByteArray.mk m.body.toArray)] 36)) w.heap.size [.int .i64 m.kind, .int .u64 (m.ballot : Int), .int .u64 (m.slot : Int), .int .i64 m.shard, .int .i64 m.seg, .int .u64 (m.client : Int), .int .u64 (m.seq : Int), .int .u64 (m.pos : Int), .int .i64 m.code, .slice av m.vec.length cv, .string (ByteArray.mk m.body.toArray)] 36 := NB.rw_new w [.int .i64 m.kind, .int .u64 (m.ballot : Int), .int .u64 (m.slot : Int), .int .i64 m.shard, .int .i64 m.seg, .int .u64 (m.client : Int), .int .u64 (m.seq : Int), .int .u64 (m.pos : Int), .int .i64 m.code, .slice av m.vec.length cv, .string (ByteArray.mk m.body.toArray)] 36 rfl
  go_enter Tryd.func37, Tryd.ntmps37
  go_wp2_with fail
  have fa := rfields_any (w.alloc (.cells #[.int .i64 m.kind, .int .u64 (m.ballot : Int), .int .u64 (m.slot : Int), .int .i64 m.shard, .int .i64 m.seg, .int .u64 (m.client : Int), .int .u64 (m.seq : Int), .int .u64 (m.pos : Int), .int .i64 m.code, .slice av m.vec.length cv, .string (ByteArray.mk m.body.toArray)] 36)) m.kind
  rw [HF.out] at fa
  refine fa.mono ?_
  clear fa
  rintro e w1 ⟨rfl, hb1⟩
  have B1 := NB.bel ob hb1 ob.size
  have r2 := r1.below hb1
  clear ob r1 hb1 hSF
  go_wp2_with fail
  go_loopw [4, 5] (fun x y wr => ∃ i : Nat, i ≤ S.length ∧ x = .string (ByteArray.mk ((F.take i).flatMap (encFl m)).toArray) ∧ y = .int .i64 (i : Int) ∧ Below w.heap.size w wr ∧ Rw wr w.heap.size [.int .i64 m.kind, .int .u64 (m.ballot : Int), .int .u64 (m.slot : Int), .int .i64 m.shard, .int .i64 m.seg, .int .u64 (m.client : Int), .int .u64 (m.seq : Int), .int .u64 (m.pos : Int), .int .i64 m.code, .slice av m.vec.length cv, .string (ByteArray.mk m.body.toArray)] 36) (fun _ y _ => S.length - (intOf y).toNat)
  case atStart => exact ⟨0, by omega, rfl, rfl, B1, r2⟩
  case round =>
    clear B1 r2
    obtain ⟨i, hi, rfl, rfl, B, r2⟩ := hrel
    have hp := HPL.out i
    by_cases hlt : i < S.length
    case neg =>
      have hli : ¬ (i : Int) < (S.length : Int) := by omega
      rw [List.take_of_length_le (by have := HSF.out; omega)]
      go_wp2_with fail
      go_ret
      exact ⟨rfl, B⟩
    have hli : (i : Int) < (S.length : Int) := by omega
    have hiF : i < F.length := by have := HSF.out; omega
    obtain ⟨f, hf⟩ : ∃ f, F[i] = f := ⟨_, rfl⟩
    have hf10 : f < 10 := by rw [← hf]; exact HFF.out _ (List.getElem_mem _)
    have hSi : S[i]'hlt = ltrs.getD f 0 := by
      have : S[i]? = some (ltrs.getD f 0) := by rw [HST.out, List.getElem?_map, List.getElem?_eq_getElem hiF, hf]; rfl
      rw [List.getElem?_eq_getElem hlt] at this
      exact Option.some.inj this
    have htk : (F.take (i + 1)).flatMap (encFl m) = (F.take i).flatMap (encFl m) ++ encFl m f := by
      rw [List.take_add_one, List.getElem?_eq_getElem hiF, hf]; simp
    have num := fun W => rnum_any W m av cv (by omega) (by omega) f hf10 (fun h => HOK.out f hf10)
    have hnl := numR_lt m HOK.out f hf10
    have hen : (encU (numR m f)).length ≤ 9 := NB.encU_len hnl
    have NUM := Go.Lib.hid num; have HNU := Go.Lib.hid hnl; have HTK := Go.Lib.hid htk
    obtain ⟨L, hL⟩ : ∃ L, ltrs.getD f 0 = L := ⟨_, rfl⟩
    have hgi : ∀ h, (ByteArray.mk S.toArray)[i]'h = L := fun _ => by rw [← hL, ← hSi]; rfl
    rw [hL] at NUM
    obtain ⟨PP, hPP⟩ : ∃ PP, (F.take i).flatMap (encFl m) = PP := ⟨_, rfl⟩
    rw [hPP] at HTK hp ⊢
    clear hPP hSi hf num hnl htk
    have B8 := B.drew
    have z1 := r2.below (dB wr)
    clear B r2
    go_wp2_with fail
    refine NB.wp_region_t [] (by kernel_rfl) ?_
    generalize wr.drew = w8 at *
    obtain ⟨N, hN⟩ : ∃ N, encU (numR m f) = N := ⟨_, rfl⟩
    rw [hN] at hen
    have hcat : ¬ 9223372036854775807 < PP.length + N.length := by omega
    refine NB.t_p 0 rfl (by kernel_rfl) (fun K hK => ?_); go_simp; refine hK _ ?_; clear hK K
    refine NB.t_r 1 [5, 6, 7, 8] rfl (by kernel_rfl) (by kernel_rfl) (by go_simp) _ (fun w' hw' => NB.run_op_load_agg (off := 0) (m := 11) rfl rfl Tryd.underlying36 rfl _ _ _ z1 (by kernel_rfl) (Nat.le_refl _) _ rfl hw') (fun K hK => ?_); go_simp; refine hK _ ?_; clear hK K
    refine NB.t_p 2 rfl (by kernel_rfl) (fun K hK => ?_); go_simp; refine hK _ ?_; clear hK K
    refine NB.t_p 3 rfl (by kernel_rfl) (fun K hK => ?_); go_simp; refine hK _ ?_; clear hK K
    refine NB.t_p 4 rfl (by kernel_rfl) (fun K hK => ?_); go_simp; refine hK _ ?_; clear hK K
    refine NB.t_e 5 rfl (by kernel_rfl) (by kernel_rfl) (fun K hK => ?_); unfold NB.tmoves; go_simp; refine (NUM.out w8).mono ?_; rintro e w9 ⟨rfl, hb9⟩; refine ⟨_, rfl, hb9, hK _ _ ?_⟩; clear hK K
    refine NB.t_e 6 rfl (by kernel_rfl) (by kernel_rfl) (fun K hK => ?_); unfold NB.tmoves; go_simp; refine (ruintR_any w9 _ HNU.out).mono ?_; rintro e w10 ⟨rfl, hb10⟩; refine ⟨_, rfl, hb10, hK _ _ ?_⟩; clear hK K
    refine NB.t_p 7 rfl (by kernel_rfl) (fun K hK => ?_); go_simp; refine hK _ ?_; clear hK K
    refine NB.t_p 8 rfl (by kernel_rfl) (fun K hK => ?_); go_simp; refine hK _ ?_; clear hK K
    refine NB.t_end (by kernel_rfl) ?_
    have B10 := NB.bel (NB.bel B8 hb9 B8.size) hb10 (NB.bel B8 hb9 B8.size).size
    have z3 := (z1.below hb9).below hb10
    clear B8 z1 hb9 hb10 NUM HNU
    by_cases h8 : f < 8
    · have hs := ltr_small f h8
      rw [hL] at hs
      obtain ⟨s1, s2⟩ := hs
      have hef : encFl m f = N := by rw [encFl_nat m f h8, ← hN]; unfold numR; rw [if_pos h8]
      have HEF := Go.Lib.hid hef
      clear hef hN
      go_wp2_with fail
      go_loopw [4, 6] (fun x y wr => x = .string (ByteArray.mk (PP ++ N).toArray) ∧ y = .int .i64 0 ∧ Below w.heap.size w wr ∧ Rw wr w.heap.size [.int .i64 m.kind, .int .u64 (m.ballot : Int), .int .u64 (m.slot : Int), .int .i64 m.shard, .int .i64 m.seg, .int .u64 (m.client : Int), .int .u64 (m.seq : Int), .int .u64 (m.pos : Int), .int .i64 m.code, .slice av m.vec.length cv, .string (ByteArray.mk m.body.toArray)] 36) (fun _ _ _ => 0)
      case atStart => exact ⟨rfl, rfl, B10, z3⟩
      case round =>
        clear B10 z3
        obtain ⟨rfl, rfl, BI, RI⟩ := hrel
        have q9 := RI.cell 9 _ rfl
        by_cases hv0 : 0 < m.vec.length
        · have hvz : (0 : Int) < (m.vec.length : Int) := by omega
          go_wp2_with fail
          go_round
          case rel => exact ⟨i + 1, by omega, by rw [HTK.out, HEF.out]; try simp [List.append_assoc], by go_num, BI, RI⟩
          case measure => simp [intOf]; omega
        · have hvz : ¬ (0 : Int) < (m.vec.length : Int) := by omega
          go_wp2_with fail
          go_round
          case rel => exact ⟨i + 1, by omega, by rw [HTK.out, HEF.out]; try simp [List.append_assoc], by go_num, BI, RI⟩
          case measure => simp [intOf]; omega
    · by_cases h9 : f = 9
      · subst h9
        have s1 : ((L.toNat : Int) == 120) = true := by rw [← hL]; rfl
        have s2 : ((L.toNat : Int) == 118) = false := by rw [← hL]; rfl
        have hef : encFl m 9 = N ++ m.body := by rw [← hN]; rfl
        have HEF := Go.Lib.hid hef
        have hcat2 : ¬ 9223372036854775807 < (PP ++ N).length + m.body.length := by rw [List.length_append]; omega
        have hcat3 : ¬ 9223372036854775807 < PP.length + N.length + m.body.length := by omega
        have hcat4 : ¬ 9223372036854775807 < PP.length + (N.length + m.body.length) := by omega
        have q10 := z3.cell 10 _ rfl
        clear hef hN hL
        go_wp2_with fail
        go_loopw [4, 6] (fun x y wr => x = .string (ByteArray.mk (PP ++ (N ++ m.body)).toArray) ∧ y = .int .i64 0 ∧ Below w.heap.size w wr ∧ Rw wr w.heap.size [.int .i64 m.kind, .int .u64 (m.ballot : Int), .int .u64 (m.slot : Int), .int .i64 m.shard, .int .i64 m.seg, .int .u64 (m.client : Int), .int .u64 (m.seq : Int), .int .u64 (m.pos : Int), .int .i64 m.code, .slice av m.vec.length cv, .string (ByteArray.mk m.body.toArray)] 36) (fun _ _ _ => 0)
        case atStart => exact ⟨rfl, rfl, B10, z3⟩
        case round =>
          clear B10 z3
          obtain ⟨rfl, rfl, BI, RI⟩ := hrel
          have q9 := RI.cell 9 _ rfl
          by_cases hv0 : 0 < m.vec.length
          · have hvz : (0 : Int) < (m.vec.length : Int) := by omega
            go_wp2_with fail
            go_round
            case rel => exact ⟨i + 1, by omega, by rw [HTK.out, HEF.out]; try simp [List.append_assoc], by go_num, BI, RI⟩
            case measure => simp [intOf]; omega
          · have hvz : ¬ (0 : Int) < (m.vec.length : Int) := by omega
            go_wp2_with fail
            go_round
            case rel => exact ⟨i + 1, by omega, by rw [HTK.out, HEF.out]; try simp [List.append_assoc], by go_num, BI, RI⟩
            case measure => simp [intOf]; omega
      · obtain rfl : f = 8 := by omega
        have s1 : ((L.toNat : Int) == 120) = false := by rw [← hL]; rfl
        have s2 : ((L.toNat : Int) == 118) = true := by rw [← hL]; rfl
        have hef : encFl m 8 = N ++ m.vec.flatMap encU := by rw [← hN]; rfl
        have HEF := Go.Lib.hid hef
        clear hef hN hL
        go_wp2_with fail
        go_loopw [4, 6] (fun x y wr => ∃ k : Nat, k ≤ m.vec.length ∧ x = .string (ByteArray.mk (PP ++ (N ++ (m.vec.take k).flatMap encU)).toArray) ∧ y = .int .i64 (k : Int) ∧ Below w.heap.size w wr ∧ Rw wr w.heap.size [.int .i64 m.kind, .int .u64 (m.ballot : Int), .int .u64 (m.slot : Int), .int .i64 m.shard, .int .i64 m.seg, .int .u64 (m.client : Int), .int .u64 (m.seq : Int), .int .u64 (m.pos : Int), .int .i64 m.code, .slice av m.vec.length cv, .string (ByteArray.mk m.body.toArray)] 36) (fun _ y _ => m.vec.length - (intOf y).toNat)
        case atStart => exact ⟨0, by omega, by simp, rfl, B10, z3⟩
        case round =>
          clear B10 z3
          obtain ⟨k, hk, rfl, rfl, BI, RI⟩ := hrel
          have q9 := RI.cell 9 _ rfl
          by_cases hkl : k < m.vec.length
          · have hkz : (k : Int) < (m.vec.length : Int) := by omega
            obtain ⟨b1, o1, ea, hc1⟩ := Rd.pos (hR.below BI).1 (by omega)
            obtain ⟨x, hx⟩ : ∃ x, m.vec[k]? = some x := ⟨m.vec[k], List.getElem?_eq_getElem _⟩
            have p0 : wr.cell? ⟨b1, o1 + k, none⟩ = some (.int .u64 (x : Int)) := hc1 k _ (by rw [List.getElem?_map, hx]; rfl)
            have hxl : x < 18446744073709551616 := hR.2 x (List.mem_of_getElem? hx)
            have hxn : (encU x).length ≤ 9 := NB.encU_len hxl
            have htv : (m.vec.take (k + 1)).flatMap encU = (m.vec.take k).flatMap encU ++ encU x := by rw [List.take_add_one, hx]; simp
            have hvl : ((m.vec.take k).flatMap encU).length ≤ 9 * (m.vec.take k).length := encs_len _ (fun y hy => hR.2 y (List.mem_of_mem_take hy))
            have hvl2 : (m.vec.take k).length ≤ m.vec.length := by rw [List.length_take]; omega
            have HTV := Go.Lib.hid htv
            obtain ⟨VV, hVV⟩ : ∃ VV, (m.vec.take k).flatMap encU = VV := ⟨_, rfl⟩
            rw [hVV] at HTV hvl ⊢
            have hc5 : ¬ 9223372036854775807 < (PP ++ (N ++ VV)).length + (encU x).length := by simp only [List.length_append]; omega
            have hc6 : ¬ 9223372036854775807 < PP.length + (N.length + VV.length) + (encU x).length := by omega
            clear hVV hc1 hx htv
            subst ea
            go_wp2_with fail
            refine (ruintR_any wr x hxl).mono ?_
            rintro e w11 ⟨rfl, hb11⟩
            have BJ := NB.bel BI hb11 BI.size
            have RJ := RI.below hb11
            go_wp2_with fail
            go_round
            case rel => exact ⟨k + 1, by omega, by rw [HTV.out]; try simp [List.append_assoc], by go_num, BJ, RJ⟩
            case measure => simp [intOf]; omega
          · have hkz : ¬ (k : Int) < (m.vec.length : Int) := by omega
            have hvt : m.vec.take k = m.vec := List.take_of_length_le (by omega)
            rw [hvt]
            go_wp2_with fail
            go_round
            case rel => exact ⟨i + 1, by omega, by rw [HTK.out, HEF.out], by go_num, BI, RI⟩
            case measure => simp [intOf]; omega
end Go.Proofs.YtadgokegjmigoaaDoor
namespace Go.Proofs.YtadgokegjmigoaaDoor
open Go.RowKit Go.Shelf
open Go.NB (Rd Kp Stp Off Dis oneB dB Rw RdU Lp Rr encU encB digs)

set_option maxRecDepth 100000 in
set_option maxHeartbeats 8000000 in
theorem rmput_any (w : World) (m : Mm) (av : Option Addr) (cv : Nat) (hv : m.vec.length ≤ 100000) (hb : m.body.length ≤ 100000) (hwf : WfM m) (hR : RdU w av m.vec.length cv m.vec) :
    Calls Tryd.prog 16 #[.agg #[.int .i64 m.kind, .int .u64 (m.ballot : Int), .int .u64 (m.slot : Int), .int .i64 m.shard, .int .i64 m.seg, .int .u64 (m.client : Int), .int .u64 (m.seq : Int), .int .u64 (m.pos : Int), .int .i64 m.code, .slice av m.vec.length cv, .string (ByteArray.mk m.body.toArray)]] w (StrE w (mputM m)) := by
  have hcb := Rd.bound hR.1
  have ob := oneB w (.cells #[.int .i64 m.kind, .int .u64 (m.ballot : Int), .int .u64 (m.slot : Int), .int .i64 m.shard, .int .i64 m.seg, .int .u64 (m.client : Int), .int .u64 (m.seq : Int), .int .u64 (m.pos : Int), .int .i64 m.code, .slice av m.vec.length cv, .string (ByteArray.mk m.body.toArray)] 36)
  have r1 : Rw (w.alloc (.cells #[.int .i64 m.kind, .int .u64 (m.ballot : Int), .int .u64 (m.slot : Int), .int .i64 m.shard, .int .i64 m.seg, .int .u64 (m.client : Int), .int .u64 (m.seq : Int), .int .u64 (m.pos : Int), .int .i64 m.code, .slice av m.vec.length cv, .string (ByteArray.mk m.body.toArray)] 36)) w.heap.size [.int .i64 m.kind, .int .u64 (m.ballot : Int), .int .u64 (m.slot : Int), .int .i64 m.shard, .int .i64 m.seg, .int .u64 (m.client : Int), .int .u64 (m.seq : Int), .int .u64 (m.pos : Int), .int .i64 m.code, .slice av m.vec.length cv, .string (ByteArray.mk m.body.toArray)] 36 := NB.rw_new w [.int .i64 m.kind, .int .u64 (m.ballot : Int), .int .u64 (m.slot : Int), .int .i64 m.shard, .int .i64 m.seg, .int .u64 (m.client : Int), .int .u64 (m.seq : Int), .int .u64 (m.pos : Int), .int .i64 m.code, .slice av m.vec.length cv, .string (ByteArray.mk m.body.toArray)] 36 rfl
  have hR1 := hR.below ob
  have ck := rcheck_any (w.alloc (.cells #[.int .i64 m.kind, .int .u64 (m.ballot : Int), .int .u64 (m.slot : Int), .int .i64 m.shard, .int .i64 m.seg, .int .u64 (m.client : Int), .int .u64 (m.seq : Int), .int .u64 (m.pos : Int), .int .i64 m.code, .slice av m.vec.length cv, .string (ByteArray.mk m.body.toArray)] 36)) m av cv hv hb hwf hcb.2
  cases hc : mcheckB m
  · have hq : mputM m = ([], 1) := mput_no (by rw [hc]; simp)
    have hm : mcheckM m = 1 := by unfold mcheckM; rw [if_neg (by rw [hc]; simp)]
    rw [hm] at ck
    rw [hq]
    have CK := Go.Lib.hid ck
    clear ck hq hm hc hwf
    have c0 := r1.cell 0 _ rfl
    have c1 := r1.cell 1 _ rfl
    have c2 := r1.cell 2 _ rfl
    have c3 := r1.cell 3 _ rfl
    have c4 := r1.cell 4 _ rfl
    have c5 := r1.cell 5 _ rfl
    have c6 := r1.cell 6 _ rfl
    have c7 := r1.cell 7 _ rfl
    have c8 := r1.cell 8 _ rfl
    have c9 := r1.cell 9 _ rfl
    have c10 := r1.cell 10 _ rfl
    go_enter Tryd.func16, Tryd.ntmps16
    go_wp2_with fail
    refine CK.out.mono ?_
    rintro e w1 ⟨rfl, hb1⟩
    have B1 := NB.bel ob hb1 ob.size
    go_wp2_with fail
    go_ret2
    exact ⟨rfl, B1⟩
  · have hq := mput_ok hc hwf
    have hm : mcheckM m = 0 := by unfold mcheckM; rw [if_pos hc]
    obtain ⟨hk, _, hok⟩ := mcheck_parts hc hwf
    have hbl := body_len m hok
    have hw8 : IntKind.u8.wrap m.kind = ((UInt8.ofNat m.kind.toNat).toNat : Int) := by rw [IntKind.wrap_u8, UInt8.toNat_ofNat']; omega
    have hfp : fputM (UInt8.ofNat m.kind.toNat, bodyL m) = mputM m := by unfold mputM; rw [if_pos hc]; rfl
    have fp := fun W => rfput_any W (UInt8.ofNat m.kind.toNat) (bodyL m) (by omega)
    rw [hfp] at fp
    rw [hm] at ck
    have CK := Go.Lib.hid ck
    have FP := Go.Lib.hid fp
    have HOK := Go.Lib.hid hok
    have HK := Go.Lib.hid hk
    obtain ⟨Q, hQ⟩ : ∃ Q, mputM m = Q := ⟨_, rfl⟩
    rw [hQ] at FP ⊢
    obtain ⟨kb, hkb⟩ : ∃ kb, UInt8.ofNat m.kind.toNat = kb := ⟨_, rfl⟩
    rw [hkb] at hw8 FP
    clear ck fp hfp hq hm hc hwf hok hk hQ hkb
    have c0 := r1.cell 0 _ rfl
    have c1 := r1.cell 1 _ rfl
    have c2 := r1.cell 2 _ rfl
    have c3 := r1.cell 3 _ rfl
    have c4 := r1.cell 4 _ rfl
    have c5 := r1.cell 5 _ rfl
    have c6 := r1.cell 6 _ rfl
    have c7 := r1.cell 7 _ rfl
    have c8 := r1.cell 8 _ rfl
    have c9 := r1.cell 9 _ rfl
    have c10 := r1.cell 10 _ rfl
    go_enter Tryd.func16, Tryd.ntmps16
    go_wp2_with fail
    refine CK.out.mono ?_
    rintro e w1 ⟨rfl, hb1⟩
    have B1 := NB.bel ob hb1 ob.size
    have r2 := r1.below hb1
    have hR2 := hR1.below hb1
    clear c0 c1 c2 c3 c4 c5 c6 c7 c8 c9 c10
    clear ob r1 hR1 hb1 CK hR
    go_wp2_with fail
    refine NB.wp_region_t [] (by kernel_rfl) ?_
    have B8 := B1.drew
    have z1 := r2.below (dB w1)
    have hR8 := hR2.below (dB w1)
    generalize w1.drew = w8 at *
    have d0 := z1.cell 0 _ rfl
    have BOD := Go.Lib.hid (rbody_any w8 m av cv HOK.out hR8 HK.out)
    clear B1 r2 hR2 hR8
    refine NB.t_p 0 rfl (by kernel_rfl) (fun K hK => ?_); go_simp; refine hK _ ?_; clear hK K
    refine NB.t_r 1 [2, 5, 6, 7, 8, 9, 10] rfl (by kernel_rfl) (by kernel_rfl) (by go_simp) _ (fun w' hw' => NB.run_op_load rfl rfl Tryd.underlying3 rfl d0 hw') (fun K hK => ?_); go_simp; refine hK _ ?_; clear hK K
    refine NB.t_p 2 rfl (by kernel_rfl) (fun K hK => ?_); go_simp; refine hK _ ?_; clear hK K
    refine NB.t_r 3 [4, 5, 6, 7, 8, 9, 10] rfl (by kernel_rfl) (by kernel_rfl) (by go_simp) _ (fun w' hw' => NB.run_op_load_agg (off := 0) (m := 11) rfl rfl Tryd.underlying36 rfl _ _ _ z1 (by kernel_rfl) (Nat.le_refl _) _ rfl hw') (fun K hK => ?_); go_simp; refine hK _ ?_; clear hK K
    refine NB.t_e 4 rfl (by kernel_rfl) (by kernel_rfl) (fun K hK => ?_); unfold NB.tmoves; go_simp; refine (BOD.out.mono ?_); rintro e w9 ⟨rfl, hb9⟩; refine ⟨_, rfl, hb9, hK _ _ ?_⟩; clear hK K
    refine NB.t_p 5 rfl (by kernel_rfl) (fun K hK => ?_); go_simp; refine hK _ ?_; clear hK K
    refine NB.t_e 6 rfl (by kernel_rfl) (by kernel_rfl) (fun K hK => ?_); unfold NB.tmoves; go_simp; refine ((FP.out w9).mono ?_); rintro e w10 ⟨rfl, hb10⟩; refine ⟨_, rfl, hb10, hK _ _ ?_⟩; clear hK K
    refine NB.t_p 7 rfl (by kernel_rfl) (fun K hK => ?_); go_simp; refine hK _ ?_; clear hK K
    refine NB.t_p 8 rfl (by kernel_rfl) (fun K hK => ?_); go_simp; refine hK _ ?_; clear hK K
    refine NB.t_p 9 rfl (by kernel_rfl) (fun K hK => ?_); go_simp; refine hK _ ?_; clear hK K
    refine NB.t_p 10 rfl (by kernel_rfl) (fun K hK => ?_); go_simp; refine hK _ ?_; clear hK K
    refine NB.t_end (by kernel_rfl) ?_
    have B9 := NB.bel B8 hb9 B8.size
    have B10 := NB.bel B9 hb10 B9.size
    go_wp2_with fail
    go_ret2
    exact ⟨rfl, B10⟩
end Go.Proofs.YtadgokegjmigoaaDoor
