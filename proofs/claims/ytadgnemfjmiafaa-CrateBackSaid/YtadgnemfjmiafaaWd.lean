/- number: four bytes as a number; slices of bytes. Conditions: the bytes lie in memory. -/
import Derived.Test.YtadgnemfjmiafaaWc
namespace Go.Proofs.Ytadgnemfjmiafaa
open Go.RowKit

/-- the number of the first four bytes. -/
def numOf (zs : List Int) : Nat := (zs.getD 0 0).toNat + 256 * (zs.getD 1 0).toNat + 65536 * (zs.getD 2 0).toNat + 16777216 * (zs.getD 3 0).toNat
theorem or32 (x y : Nat) (hx : x < 4294967296) (hy : y < 4294967296) : bits .or .u32 (x : Int) (y : Int) = ((x ||| y : Nat) : Int) := by
  have hxy : x ||| y < 4294967296 := Nat.or_lt_two_pow (n := 32) hx hy
  show IntKind.u32.wrap ((BitVec.ofInt 32 (x : Int) ||| BitVec.ofInt 32 (y : Int)).toNat : Int) = _
  rw [IntKind.wrap_u32', BitVec.toNat_or, BitVec.toNat_ofInt, BitVec.toNat_ofInt]
  have e1 : ((x : Int) % ((2 ^ 32 : Nat) : Int)).toNat = x := by omega
  have e2 : ((y : Int) % ((2 ^ 32 : Nat) : Int)).toNat = y := by omega
  rw [e1, e2]
  omega
theorem or_hi (k x y : Nat) (hx : x < 2 ^ k) : x ||| 2 ^ k * y = x + 2 ^ k * y := by
  rw [Nat.or_comm, ← Nat.two_pow_add_eq_or_of_lt hx, Nat.add_comm]
theorem or_num (a b c d : Nat) (ha : a < 256) (hb : b < 256) (hc : c < 256) (hd : d < 256) :
    bits .or .u32 (bits .or .u32 (bits .or .u32 (a : Int) ((b : Int) * 256)) ((c : Int) * 65536)) ((d : Int) * 16777216) = ((a + 256 * b + 65536 * c + 16777216 * d : Nat) : Int) := by
  rw [show ((b : Int) * 256) = ((256 * b : Nat) : Int) by omega, show ((c : Int) * 65536) = ((65536 * c : Nat) : Int) by omega, show ((d : Int) * 16777216) = ((16777216 * d : Nat) : Int) by omega]
  have h1 := or_hi 8 a b ha
  have h2 := or_hi 16 (a + 2 ^ 8 * b) c (by omega)
  have h3 := or_hi 24 (a + 2 ^ 8 * b + 2 ^ 16 * c) d (by omega)
  simp only [Nat.reducePow] at h1 h2 h3
  rw [or32 a _ (by omega) (by omega), h1, or32 _ _ (by omega) (by omega), h2, or32 _ _ (by omega) (by omega), h3]

theorem number_any (a : Option Addr) (len cap : Nat) (zs : List Int) (w : World) (hB : Bytes w a len zs) (hl : 4 ≤ len) :
    Calls Try.prog 18 #[.slice a len cap] w fun e w' => e = .returned (.int .u32 (numOf zs)) ∧ ∃ n, w' = w.drewN n := by
  obtain ⟨b, off, x0, rfl, c0, p0, q0, e0, _⟩ := hB.get 0 (by omega)
  obtain ⟨b1, off1, x1, h, c1, p1, q1, e1, _⟩ := hB.get 1 (by omega)
  obtain ⟨rfl, rfl⟩ : b = b1 ∧ off = off1 := by simpa using h
  clear h
  obtain ⟨b1, off1, x2, h, c2, p2, q2, e2, _⟩ := hB.get 2 (by omega)
  obtain ⟨rfl, rfl⟩ : b = b1 ∧ off = off1 := by simpa using h
  clear h
  obtain ⟨b1, off1, x3, h, c3, p3, q3, e3, _⟩ := hB.get 3 (by omega)
  obtain ⟨rfl, rfl⟩ : b = b1 ∧ off = off1 := by simpa using h
  clear h hB
  obtain ⟨y0, rfl⟩ := Int.eq_ofNat_of_zero_le p0
  obtain ⟨y1, rfl⟩ := Int.eq_ofNat_of_zero_le p1
  obtain ⟨y2, rfl⟩ := Int.eq_ofNat_of_zero_le p2
  obtain ⟨y3, rfl⟩ := Int.eq_ofNat_of_zero_le p3
  have HR := Lib.hid (or_num y0 y1 y2 y3 (by omega) (by omega) (by omega) (by omega))
  have HN : Hid ((numOf zs : Nat) = y0 + 256 * y1 + 65536 * y2 + 16777216 * y3) := by
    show _ = _
    rw [numOf, ← e0, ← e1, ← e2, ← e3]; simp
  clear e0 e1 e2 e3
  rw [Nat.add_zero] at c0
  have l0 : 0 < len := by omega
  have l1 : 1 < len := by omega
  have l2 : 2 < len := by omega
  have l3 : 3 < len := by omega
  go_enter Try.func18, Try.ntmps18
  go_wp2
  go_region
  go_wp2
  go_ret
  refine ⟨by rw [HN.out, ← HR.out]; rfl, 1, rfl⟩
end Go.Proofs.Ytadgnemfjmiafaa
