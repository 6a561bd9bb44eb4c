/- The walks of one step, of the table of sixteen, and of the sum of the program: what they return. Conditions: the bytes lie in memory. -/
import Derived.Test.YtadgnemfjmiafaaRows
import Derived.Test.YtadgnemfjmiafaaMath
import Derived.WalkKit
import Derived.WalkSpells
import Derived.WalkLawsBesides
import Derived.Laws.BitsAllLaws
import Derived.Lib.Hide
namespace Go.Proofs.Ytadgnemfjmiafaa
open Go.RowKit

theorem ret_int {k : IntKind} {a b : Int} (h : a = b) : Ending.returned (.int k a) = .returned (.int k b) := by rw [h]

theorem xor32 (x y : Int) : bits .xor .u32 x y = ((BitVec.ofInt 32 x ^^^ BitVec.ofInt 32 y).toNat : Int) := by
  show IntKind.u32.wrap ((BitVec.ofInt 32 x ^^^ BitVec.ofInt 32 y).toNat : Int) = _
  have := (BitVec.ofInt 32 x ^^^ BitVec.ofInt 32 y).isLt
  rw [IntKind.wrap_u32']; omega
theorem and32 (x y : Int) : bits .and .u32 x y = ((BitVec.ofInt 32 x &&& BitVec.ofInt 32 y).toNat : Int) := by
  show IntKind.u32.wrap ((BitVec.ofInt 32 x &&& BitVec.ofInt 32 y).toNat : Int) = _
  have := (BitVec.ofInt 32 x &&& BitVec.ofInt 32 y).isLt
  rw [IntKind.wrap_u32']; omega
theorem ofInt_toNat (c : BitVec 32) : BitVec.ofInt 32 (c.toNat : Int) = c := by
  rw [BitVec.ofInt_natCast]; simp
theorem xor_left (c : BitVec 32) (y : Int) : bits .xor .u32 c.toNat y = ((c ^^^ BitVec.ofInt 32 y).toNat : Int) := by
  rw [xor32, ofInt_toNat]
theorem half (c : BitVec 32) : BitVec.ofInt 32 ((c.toNat : Int) / 2) = c >>> 1 := by
  rw [show ((c.toNat : Int) / 2) = ((c.toNat / 2 : Nat) : Int) by omega, BitVec.ofInt_natCast]
  apply BitVec.eq_of_toNat_eq
  have := c.isLt
  rw [BitVec.toNat_ofNat, BitVec.toNat_ushiftRight, Nat.shiftRight_eq_div_pow]
  omega
theorem st_odd (c : BitVec 32) (h : c.toNat % 2 = 1) : bits .xor .u32 ((c.toNat : Int) / 2) 2197175160 = ((Tally.st c).toNat : Int) := by
  rw [xor32, half]
  congr 2
  unfold Tally.st
  have : c[0] = true := by
    rw [← BitVec.getLsbD_eq_getElem, BitVec.getLsbD, Nat.testBit_zero]; simp [h]
  rw [this]
  rfl
theorem st_even' (c : BitVec 32) (h : ¬ c.toNat % 2 = 1) : ((c.toNat : Int) / 2) = ((Tally.st c).toNat : Int) := by
  have : c[0] = false := by
    rw [← BitVec.getLsbD_eq_getElem, BitVec.getLsbD, Nat.testBit_zero]; simp [h]
  rw [Tally.st_even c this, BitVec.toNat_ushiftRight, Nat.shiftRight_eq_div_pow]
  omega

theorem step_any (c : BitVec 32) (w : World) :
    Calls Try.prog 26 #[.int .u32 c.toNat] w fun e w' => e = .returned (.int .u32 (Tally.st c).toNat) ∧ w = w' := by
  have hb := c.isLt
  by_cases h : c.toNat % 2 = 1
  · have h1 : ((c.toNat : Int) % 2 == 1) = true := by simp; omega
    go_enter Try.func26, Try.ntmps26
    go_wp2
    go_ret
    exact ⟨ret_int (st_odd c h), rfl⟩
  · have h1 : ((c.toNat : Int) % 2 == 1) = false := by simp; omega
    go_enter Try.func26, Try.ntmps26
    go_wp2
    go_ret
    exact ⟨ret_int (st_even' c h), rfl⟩

theorem index16 (k : Nat) (hk : k < 16) (w : World) : (Instr.index 47 (.agg #[.int .u32 0, .int .u32 274646895, .int .u32 549293790, .int .u32 820201905, .int .u32 1098587580, .int .u32 1361435347, .int .u32 1640403810, .int .u32 1905808397, .int .u32 2197175160, .int .u32 2460548119, .int .u32 2722870694, .int .u32 2987750089, .int .u32 3280807620, .int .u32 3553878443, .int .u32 3811616794, .int .u32 4084100981]) (.int .u32 (k : Int))).run Try.prog w = .ok (.int .u32 ((Tally.tab (BitVec.ofNat 32 k)).toNat : Int)) w := by
  have : k = 0 ∨ k = 1 ∨ k = 2 ∨ k = 3 ∨ k = 4 ∨ k = 5 ∨ k = 6 ∨ k = 7 ∨ k = 8 ∨ k = 9 ∨ k = 10 ∨ k = 11 ∨ k = 12 ∨ k = 13 ∨ k = 14 ∨ k = 15 := by omega
  rcases this with rfl | rfl | rfl | rfl | rfl | rfl | rfl | rfl | rfl | rfl | rfl | rfl | rfl | rfl | rfl | rfl <;> rfl

theorem quarter_any (c : BitVec 32) (w : World) :
    Calls Try.prog 24 #[.int .u32 c.toNat] w fun e w' => e = .returned (.int .u32 (Tally.tab c).toNat) ∧ w = w' := by
  have hb := Tally.and_small c
  have ha : bits .and .u32 c.toNat 15 = ((c &&& 15#32).toNat : Int) := by rw [and32, ofInt_toNat]; rfl
  have hi := fun w => index16 (c &&& 15#32).toNat hb w
  have ht : Tally.tab (BitVec.ofNat 32 (c &&& 15#32).toNat) = Tally.tab c := by simp [Tally.tab_and]
  rw [ht] at hi
  clear ht
  generalize (c &&& 15#32).toNat = k at ha hi hb
  go_enter Try.func24, Try.ntmps24
  go_wp2
  go_ret
  exact ⟨rfl, rfl⟩

/-- what a byte makes of a number. -/
def mix (c : BitVec 32) (x : Int) : BitVec 32 := c ^^^ BitVec.ofInt 32 x
theorem mix_eq (c : BitVec 32) (x : Int) : bits .xor .u32 c.toNat x = ((mix c x).toNat : Int) := xor_left c x
theorem q4_val (d : BitVec 32) : bits .xor .u32 ((d.toNat : Int) / 16) (Tally.tab d).toNat = ((Tally.q4 d).toNat : Int) := by
  rw [xor32, ofInt_toNat]
  unfold Tally.q4
  congr 3
  rw [show ((d.toNat : Int) / 16) = ((d.toNat / 16 : Nat) : Int) by omega, BitVec.ofInt_natCast]
  apply BitVec.eq_of_toNat_eq
  have := d.isLt
  rw [BitVec.toNat_ofNat, BitVec.toNat_ushiftRight, Nat.shiftRight_eq_div_pow]
  omega
theorem put_mix (c : BitVec 32) (x : Int) : Tally.q4 (Tally.q4 (mix c x)) = Tally.put c x := Tally.q4_q4 _
/-- the complement of a number, as the code says it. -/
def com (c : BitVec 32) : BitVec 32 := ~~~ c
theorem com_xor (c : BitVec 32) : bits .xor .u32 IntKind.u32.max c.toNat = ((com c).toNat : Int) := by
  rw [xor32, ofInt_toNat]
  unfold com
  rw [show BitVec.ofInt 32 IntKind.u32.max = BitVec.allOnes 32 by rfl, BitVec.allOnes_xor]
theorem com_sub (c : BitVec 32) : 4294967295 - (c.toNat : Int) = ((com c).toNat : Int) := by
  unfold com
  rw [BitVec.toNat_not]; have := c.isLt; omega

/-- a slice of bytes in memory: the numbers are its elements. -/
def Bytes (w : World) (a : Option Addr) (len : Nat) (zs : List Int) : Prop :=
  zs.length = len ∧ (∀ n ∈ zs, 0 ≤ n ∧ n < 256) ∧ len ≤ maxLen ∧ (len = 0 ∨ ∃ b off, a = some ⟨b, off, none⟩ ∧ ∀ i, i < len → w.cell? ⟨b, off + i, none⟩ = some (.int .u8 (zs.getD i 0)))


theorem take_snoc (zs : List Int) (k : Nat) (h : k < zs.length) : zs.take (k + 1) = zs.take k ++ [zs.getD k 0] := by
  rw [List.take_succ_eq_append_getElem h]; simp [h]
theorem getD_range (zs : List Int) (P : Int → Prop) (hr : ∀ n ∈ zs, P n) (k : Nat) (h : k < zs.length) : P (zs.getD k 0) := by
  have : zs.getD k 0 = zs[k] := by simp [h]
  rw [this]; exact hr _ (List.getElem_mem h)

/-- an element of a slice in memory, as a walk wants it. -/
theorem Bytes.at {w : World} {a : Option Addr} {len : Nat} {zs : List Int} (hB : Bytes w a len zs) (k : Nat) (h : k < len) :
    ∃ b off x, a = some ⟨b, off, none⟩ ∧ w.cell? ⟨b, off + k, none⟩ = some (.int .u8 x) ∧ 0 ≤ x ∧ x < 256 ∧ zs.take (k + 1) = zs.take k ++ [x] := by
  obtain ⟨hl, hr, hm, hB⟩ := hB
  obtain ⟨b, off, rfl, hc⟩ := hB.resolve_left (by omega)
  have hr' := getD_range zs _ hr k (by omega)
  exact ⟨b, off, _, rfl, hc k h, hr'.1, hr'.2, take_snoc zs k (by omega)⟩

theorem more_any (c : BitVec 32) (a : Option Addr) (len cap : Nat) (zs : List Int) (w : World) (hB : Bytes w a len zs) :
    Calls Try.prog 21 #[.int .u32 c.toNat, .slice a len cap] w fun e w' => e = .returned (.int .u32 (Tally.more c zs).toNat) ∧ w = w' := by
  have hm := hB.2.2.1
  unfold maxLen at hm
  have hx := com_xor
  have hs : IntKind.u32.signed = false := rfl
  go_enter Try.func21, Try.ntmps21
  go_wp2
  go_loop [0, 11] (fun c' i => ∃ k : Nat, k ≤ len ∧ i = .int .i64 k ∧ c' = .int .u32 (Tally.run (com c) (zs.take k)).toNat) (fun _ i => len - (intOf i).toNat)
  case atStart => exact ⟨0, Nat.zero_le _, rfl, rfl⟩
  case round =>
    obtain ⟨k, hk, rfl, rfl⟩ := hrel
    by_cases hlt : k < len
    · obtain ⟨b, off, x, rfl, hck, r0, r1, ht⟩ := hB.at k hlt
      have HT := Lib.hid ht
      have hmix := mix_eq
      have hq4 := q4_val
      obtain ⟨d, hd⟩ : ∃ d, d = Tally.run (com c) (zs.take k) := ⟨_, rfl⟩
      rw [← hd]
      have HD := Lib.hid hd
      clear hx ht hd hB
      go_wp2_with (go_at_call 24; refine (quarter_any _ _).mono ?_; rintro e w' ⟨rfl, rfl⟩)
      go_round
      case rel => exact ⟨k + 1, by omega, by go_num, by rw [HT.out, Tally.run_snoc, ← HD.out, put_mix]⟩
      case measure => simp [intOf]; omega
    · obtain rfl : k = len := by omega
      have HR : Hid (com (Tally.run (com c) (zs.take k)) = Tally.more c zs) := by
        have := hB.1
        rw [List.take_of_length_le (by omega)]; exact rfl
      go_wp2
      go_ret
      exact ⟨by rw [← HR.out]; rfl, rfl⟩
end Go.Proofs.Ytadgnemfjmiafaa
