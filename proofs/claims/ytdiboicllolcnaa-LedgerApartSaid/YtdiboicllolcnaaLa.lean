/- ledger: numbers as bytes, in plain words; lay, take. Conditions: as in each statement. -/
import Derived.Test.YtdiboicllolcnaaPi
import Derived.Test.YtdiboicllolcnaaBig
import Derived.Test.YtdiboicllolcnaaSteps
import Derived.Handy
import Derived.Laws.Bits64b
namespace Go.Proofs.Ytdiboicllolcnaa
open Go Go.RowKit
set_option linter.unusedVariables false
set_option linter.unusedSimpArgs false
variable {w w' : World} {base n : Nat}

def byteN (n k : Nat) : UInt8 := UInt8.ofNat (n / 256 ^ k % 256)
def be8 (n : Nat) : Sec := [byteN n 7, byteN n 6, byteN n 5, byteN n 4, byteN n 3, byteN n 2, byteN n 1, byteN n 0]
def be4 (n : Nat) : Sec := [byteN n 3, byteN n 2, byteN n 1, byteN n 0]
def stepT (n : Nat) (x : UInt8) : Nat := (n * 256) % 18446744073709551616 + x.toNat
def num (b : Sec) : Nat := b.foldl stepT 0
theorem byteN_nat (n k : Nat) : (byteN n k).toNat = n / 256 ^ k % 256 := by
  unfold byteN
  rw [UInt8.toNat_ofNat']
  omega
theorem be8_len (n : Nat) : (be8 n).length = 8 := rfl
theorem be4_len (n : Nat) : (be4 n).length = 4 := rfl
theorem stepT_lt (n : Nat) (x : UInt8) : stepT n x < 18446744073709551616 := by
  have := x.toNat_lt
  unfold stepT
  omega
theorem num_snoc (b : Sec) (x : UInt8) : num (b ++ [x]) = stepT (num b) x := by simp [num]
theorem num_lt (b : Sec) : num b < 18446744073709551616 := by
  rcases List.eq_nil_or_concat b with rfl | ⟨l, x, rfl⟩
  · simp [num]
  · rw [List.concat_eq_append, num_snoc]; exact stepT_lt _ _
theorem num_be4 (n : Nat) (h : n < 4294967296) : num (be4 n) = n := by
  simp only [num, be4, List.foldl_cons, List.foldl_nil, stepT, byteN_nat]
  simp only [Nat.reducePow]
  omega
theorem num_be8 (n : Nat) (h : n < 18446744073709551616) : num (be8 n) = n := by
  simp only [num, be8, List.foldl_cons, List.foldl_nil, stepT, byteN_nat]
  simp only [Nat.reducePow]
  omega
theorem num_lt4 (b : Sec) (h : b.length = 4) : num b < 4294967296 := by
  match b, h with
  | [a, b, c, d], _ =>
    have h1 := a.toNat_lt
    have h2 := b.toNat_lt
    have h3 := c.toNat_lt
    have h4 := d.toNat_lt
    simp only [num, List.foldl_cons, List.foldl_nil, stepT]
    omega
theorem bits_step (N : Nat) (x : UInt8) : bits .or .u64 (IntKind.u64.wrap ((N : Int) * 256)) (x.toNat : Int) = ((stepT N x : Nat) : Int) := by
  have hx := x.toNat_lt
  have hw : IntKind.u64.wrap ((N : Int) * 256) = ((N * 256 % 18446744073709551616 : Nat) : Int) := by
    rw [IntKind.wrap_u64]; omega
  rw [hw, bits_or_u64_nat _ _ (by omega) (by omega)]
  congr 1
  have h1 : N * 256 % 18446744073709551616 = 2 ^ 8 * (N % 72057594037927936) := by omega
  unfold stepT
  rw [h1, Nat.two_pow_add_eq_or_of_lt (by omega)]
theorem bc_be8 (N : Nat) (hN : N < 18446744073709551616) : bc (be8 N) = [.int .u8 (N / 72057594037927936), .int .u8 (N / 281474976710656 % 256), .int .u8 (N / 1099511627776 % 256), .int .u8 (N / 4294967296 % 256), .int .u8 (N / 16777216 % 256), .int .u8 (N / 65536 % 256), .int .u8 (N / 256 % 256), .int .u8 (N % 256)] := by
  simp only [bc, be8, List.map_cons, List.map_nil, byteN_nat]
  simp only [Nat.reducePow]
  have h7 : N / 72057594037927936 % 256 = N / 72057594037927936 := by omega
  rw [h7]
  simp only [Int.natCast_emod, Int.natCast_ediv, Nat.div_one]
  rfl
theorem lay_any (N : Nat) (hN : (N : Int) ≤ 18446744073709551615) : Calls Try.prog 51 #[.int .u64 N] w fun e w' => e = .returned (.agg (bc (be8 N)).toArray) ∧ Below w.heap.size w w' := by
  rw [bc_be8 N (by omega)]
  go_enter Try.func51, Try.ntmps51
  go_wp2_with fail
  go_rounds 9
  refine bodyPost_ret (v := .agg #[.int .u8 (N / 72057594037927936), .int .u8 (N / 281474976710656 % 256), .int .u8 (N / 1099511627776 % 256), .int .u8 (N / 4294967296 % 256), .int .u8 (N / 16777216 % 256), .int .u8 (N / 65536 % 256), .int .u8 (N / 256 % 256), .int .u8 (N % 256)]) (by simp [results, Try.results51, go_sem]) rfl ⟨rfl, ((Below.refl _ _).alloc (Nat.le_refl _) _).alloc (by simp) _⟩
theorem Bys.at_ {ad : Option Addr} {len : Nat} {b : Sec} (h : Bys w ad len b) (k : Nat) (x : UInt8) (hk : b[k]? = some x) : ∃ g off, ad = some ⟨g, off, none⟩ ∧ g < w.heap.size ∧ w.cell? ⟨g, off + k, none⟩ = some (.int .u8 x.toNat) := by
  have hl := (List.getElem?_eq_some_iff.1 hk).1
  obtain ⟨g, off, e, hg, hc⟩ := h.2.2.resolve_left (by rw [← h.1]; omega)
  exact ⟨g, off, e, hg, hc k _ (by rw [bc, List.getElem?_map, hk]; rfl)⟩
theorem take_any (ad : Option Addr) (len cap : Nat) (b : Sec) (h : Bys w ad len b) : Calls Try.prog 48 #[.slice ad len cap] w fun e w' => e = .returned (.int .u64 (num b : Nat)) ∧ w = w' := by
  have hl := h.1
  have hm := h.2.1
  unfold maxLen at hm
  have HL := Lib.hid hl
  have H := Lib.hid h
  clear hl h
  go_enter Try.func48, Try.ntmps48
  go_wp2_with fail
  go_loop [3, 8] (fun t i => ∃ k : Nat, k ≤ len ∧ i = .int .i64 k ∧ t = .int .u64 (num (b.take k) : Nat)) (fun _ i => len - (intOf i).toNat)
  case atStart => exact ⟨0, Nat.zero_le _, rfl, rfl⟩
  case round =>
    obtain ⟨k, hk, rfl, rfl⟩ := hrel
    by_cases hlt : k < len
    · obtain ⟨x, hx⟩ : ∃ x, b[k]? = some x := ⟨_, List.getElem?_eq_getElem (by rw [HL.out]; exact hlt)⟩
      obtain ⟨g, off, rfl, hg, hc⟩ := H.out.at_ k x hx
      have HS := Lib.hid (show num (b.take (k + 1)) = stepT (num (b.take k)) x by rw [List.take_add_one, hx]; exact num_snoc _ _)
      have HB := Lib.hid (bits_step (num (b.take k)) x)
      obtain ⟨M, hM⟩ : ∃ M, M = num (b.take k) := ⟨_, rfl⟩
      have hM1 : (M : Int) ≤ 18446744073709551615 := by have := num_lt (b.take k); omega
      rw [← hM] at HB HS ⊢
      have hx2 := x.toNat_lt
      clear hM hx
      go_wp2_with fail
      go_round
      case rel => exact ⟨k + 1, by omega, by go_num, by rw [HB.out, HS.out]⟩
      case measure => simp [intOf]; omega
    · obtain rfl : k = len := by omega
      have HT := Lib.hid (show b.take k = b from List.take_of_length_le (by rw [HL.out]; exact Nat.le_refl _))
      go_wp2
      go_ret
      exact ⟨by rw [HT.out]; rfl, rfl⟩
end Go.Proofs.Ytdiboicllolcnaa
