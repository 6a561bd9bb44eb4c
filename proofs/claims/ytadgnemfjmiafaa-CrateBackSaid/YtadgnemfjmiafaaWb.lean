/- Strings of bytes, the document's sum as a string, Put and the document's Put. Conditions: the bytes lie in memory, at most 4096. -/
import Derived.Test.YtadgnemfjmiafaaWa
import Derived.Laws.BytesArg
import Derived.Lib.AppendStr
namespace Go.Proofs.Ytadgnemfjmiafaa
open Go.RowKit

theorem Bytes.str {w : World} {a : Option Addr} {len : Nat} {zs : List Int} (h : Bytes w a len zs) (cap : Nat) :
    (convert 22 9 (.slice a len cap)).run Try.prog w = .ok (.string (strOfNums zs)) w := by
  obtain ⟨hl, hr, hm, hc⟩ := h
  rcases hc with rfl | ⟨b, off, rfl, hc⟩
  · have hz : zs = [] := by simpa using hl
    subst hz
    cases a with
    | none => rw [run_convert_bytes_nil w 22 5 Try.underlying22 Try.underlying5 0 cap 9 Try.underlying9]; rfl
    | some x =>
      rw [run_convert_bytes_string w 22 9 5 (some x) 0 cap Try.underlying22 Try.underlying5 Try.underlying9, run_bytesToString w x 0 cap [] (by simp [loadCells, loadCellsFrom])]
      rfl
  · exact run_convert_bytes_arg w 22 5 Try.underlying22 Try.underlying5 b off len cap zs hl hc 9 Try.underlying9

theorem str_cells {zs : List Int} (h : ∀ x ∈ zs, 0 ≤ x ∧ x < 256) : Lib.strCells (strOfNums zs) = zs.map (Value.int .u8) := by
  unfold Lib.strCells
  rw [strOfNums_data, List.map_map]
  refine List.map_congr_left fun x hx => ?_
  have := h x hx
  simp [Function.comp]
  omega

theorem own_below {w w' : World} {base e size n : Nat} {v : Value} {xs : List Value} (h : w.ownsRow base e size v n xs) (k : Below w.heap.size w w') : w'.ownsRow base e size v n xs :=
  own_touch (S := fun _ => False) h (Touch.of_below k) fun _ _ => id

theorem own_bytes {w : World} {base e n : Nat} {v : Value} {zs : List Int} (h : w.ownsRow base e 1 v n (zs.map (Value.int .u8))) (hr : ∀ x ∈ zs, 0 ≤ x ∧ x < 256) (hm : n ≤ maxLen) :
    ∃ ad c, v = .slice ad n c ∧ Bytes w ad n zs := by
  rcases h.2 with ⟨rfl, rfl⟩ | ⟨g, cap, cur, rfl, _⟩
  · exact ⟨none, 0, rfl, by simpa using h.1, hr, hm, .inl rfl⟩
  · exact ⟨_, _, rfl, Bytes.of_own h hr hm⟩

/-- the sum's four bytes. -/
def sum4 (zs : List Int) : List Int := fourOf (Tally.sum zs).toNat
theorem sum4_range (zs : List Int) : ∀ x ∈ sum4 zs, 0 ≤ x ∧ x < 256 := fourOf_range _
theorem sum4_len (zs : List Int) : (sum4 zs).length = 4 := rfl
theorem fourOf_len (n : Nat) : (fourOf n).length = 4 := rfl

theorem four_sum (zs : List Int) (w : World) : Calls Try.prog 14 #[.int .u32 (Tally.sum zs).toNat] w (Gives w (sum4 zs)) := four_any _ (BitVec.isLt _) w
theorem rfour_sum (zs : List Int) (w : World) : Calls Try.prog 16 #[.int .u32 (Tally.sum zs).toNat] w (Gives w (sum4 zs)) := rfour_any _ (BitVec.isLt _) w

theorem rsumS_any (a : Option Addr) (len cap : Nat) (zs : List Int) (w : World) (hB : Bytes w a len zs) :
    Calls Try.prog 17 #[.slice a len cap] w fun e w' => e = .returned (.string (strOfNums (sum4 zs))) ∧ Below w.heap.size w w' := by
  have C1 := Lib.hid (rsum_any a len cap zs w hB)
  have C2 := Lib.hid (rfour_sum zs w)
  clear hB
  go_enter Try.func17, Try.ntmps17
  go_wp2_with fail
  refine C1.out.mono ?_
  rintro e w1 ⟨rfl, rfl⟩
  go_wp2_with fail
  refine C2.out.mono ?_
  rintro e w2 ⟨v, rfl, own, bel⟩
  obtain ⟨ad, c, rfl, hb⟩ := own_bytes own (sum4_range zs) (by rw [sum4_len]; unfold maxLen; omega)
  have hs := hb.str c
  rw [sum4_len] at hs ⊢
  clear own hb C1 C2
  go_wp2
  go_ret
  exact ⟨rfl, bel⟩
end Go.Proofs.Ytadgnemfjmiafaa
