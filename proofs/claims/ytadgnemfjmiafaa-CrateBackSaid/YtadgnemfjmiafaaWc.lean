/- Put and the document's Put. Conditions: the bytes lie in memory. -/
import Derived.Test.YtadgnemfjmiafaaWb
namespace Go.Proofs.Ytadgnemfjmiafaa
open Go.RowKit

def head8 (n : Nat) : List Int := fourOf n ++ sum4 (fourOf n)
def crateOf (zs : List Int) : List Int := (head8 zs.length ++ zs) ++ sum4 zs
theorem head8_len (n : Nat) : (head8 n).length = 8 := rfl
theorem crateOf_len (zs : List Int) : (crateOf zs).length = zs.length + 12 := by simp [crateOf, head8_len, sum4_len]; omega
theorem head8_range (n : Nat) : ∀ x ∈ head8 n, 0 ≤ x ∧ x < 256 := by
  intro x hx
  rcases List.mem_append.1 hx with h | h
  · exact fourOf_range _ x h
  · exact sum4_range _ x h
theorem crateOf_range {zs : List Int} (hr : ∀ x ∈ zs, 0 ≤ x ∧ x < 256) : ∀ x ∈ crateOf zs, 0 ≤ x ∧ x < 256 := by
  intro x hx
  rcases List.mem_append.1 hx with h | h
  · rcases List.mem_append.1 h with h | h
    · exact head8_range _ x h
    · exact hr x h
  · exact sum4_range _ x h

theorem put_any (a : Option Addr) (len cap : Nat) (zs : List Int) (w : World) (hB : Bytes w a len zs) (hm : len ≤ 4096) :
    Calls Try.prog 8 #[.slice a len cap] w fun e w' => ∃ v, e = .returned (.tuple #[v, .int .i64 0]) ∧ w'.ownsRow w.heap.size 5 1 v (len + 12) ((crateOf zs).map (Value.int .u8)) ∧ Below w.heap.size w w' := by
  obtain ⟨i0, hi, hz0, hz1, hz2⟩ := info_parts info5
  have HB := Lib.hid hB
  have C1 := Lib.hid (four_any len (by omega) w)
  have hl := hB.1
  clear hB
  go_enter Try.func8, Try.ntmps8
  go_wp2_with fail
  refine C1.out.mono ?_
  rintro e w1 ⟨v1, rfl, own1, bel1⟩
  obtain ⟨ad1, k1, rfl, hb1⟩ := own_bytes own1 (fourOf_range _) (by rw [fourOf_len]; unfold maxLen; omega)
  rw [fourOf_len] at hb1 own1 ⊢
  have HO1 := Lib.hid own1
  have HB1 := Lib.hid hb1
  clear own1 hb1 C1
  go_wp2_with fail
  refine (sum_any _ _ _ _ _ HB1.out).mono ?_
  rintro e w2 ⟨rfl, rfl⟩
  go_wp2_with fail
  refine (four_sum _ _).mono ?_
  rintro e w2 ⟨v2, rfl, own2, bel2⟩
  obtain ⟨ad2, k2, rfl, hb2⟩ := own_bytes own2 (sum4_range _) (by rw [sum4_len]; unfold maxLen; omega)
  rw [sum4_len] at hb2 own2 ⊢
  have HS2 := Lib.hid hb2.src
  have HO2 := Lib.hid (own_below HO1.out bel2)
  have B2 := bel1.trans (bel2.mono bel1.size)
  clear hb2 own2 HO1 HB1 bel1 bel2
  have hsz := B2.size
  go_wp2_with (at_builtin; refine wpList_append_src rfl (.tmp 12) (.tmp 15) 22 rfl w.heap.size 5 i0 (.int .u8 0) 1 1 Try.underlying22 hi hz0 hz1 hz2 rfl (by decide) _ _ _ rfl HO2.out _ _ _ _ rfl HS2.out ?c2 ?c3 ?c4 ?_)
  case c2 => unfold maxLen; omega
  case c3 => omega
  case c4 => omega
  intro v3 w3 own3 g3
  have B3 := B2.grown g3 hsz (own_ge HO2.out)
  have e3 : (fourOf len).map (Value.int .u8) ++ (sum4 (fourOf len)).map (Value.int .u8) = (head8 len).map (Value.int .u8) := by rw [head8, List.map_append]
  rw [e3] at own3
  have HO3 := Lib.hid (show w3.ownsRow w.heap.size 5 1 v3 8 ((head8 len).map (Value.int .u8)) from own3)
  have HS3 := Lib.hid (HB.out.below B3).src
  have hsz3 := B3.size
  clear own3 g3 HO2 HS2 e3 B2 hsz
  go_wp2_with (at_builtin; refine wpList_append_src rfl (.tmp 17) (.tmp 18) 22 rfl w.heap.size 5 i0 (.int .u8 0) 1 1 Try.underlying22 hi hz0 hz1 hz2 rfl (by decide) _ _ _ rfl HO3.out _ _ _ _ rfl HS3.out ?c2 ?c3 ?c4 ?_)
  case c2 => unfold maxLen; omega
  case c3 => omega
  case c4 => omega
  intro v4 w4 own4 g4
  have B4 := B3.grown g4 hsz3 (own_ge HO3.out)
  rw [← List.map_append] at own4
  have HO4 := Lib.hid own4
  have HB4 := Lib.hid (HB.out.below B4)
  clear own4 g4 HO3 HS3 B3 hsz3
  go_wp2_with fail
  refine (sum_any _ _ _ _ _ HB4.out).mono ?_
  rintro e w5 ⟨rfl, rfl⟩
  go_wp2_with fail
  refine (four_sum _ _).mono ?_
  rintro e w5 ⟨v5, rfl, own5, bel5⟩
  obtain ⟨ad5, k5, rfl, hb5⟩ := own_bytes own5 (sum4_range _) (by rw [sum4_len]; unfold maxLen; omega)
  rw [sum4_len] at hb5 own5 ⊢
  have HS5 := Lib.hid hb5.src
  have HO5 := Lib.hid (own_below HO4.out bel5)
  have B5 := B4.trans (bel5.mono B4.size)
  clear hb5 own5 HO4 HB4 bel5 B4
  have hsz := B5.size
  go_wp2_with (at_builtin; refine wpList_append_src rfl (.tmp 20) (.tmp 23) 22 rfl w.heap.size 5 i0 (.int .u8 0) 1 1 Try.underlying22 hi hz0 hz1 hz2 rfl (by decide) _ _ _ rfl HO5.out _ _ _ _ rfl HS5.out ?c2 ?c3 ?c4 ?_)
  case c2 => unfold maxLen; omega
  case c3 => omega
  case c4 => omega
  intro v6 w6 own6 g6
  have B6 := B5.grown g6 hsz (own_ge HO5.out)
  rw [← List.map_append] at own6
  have HO6 := Lib.hid (show w6.ownsRow w.heap.size 5 1 v6 (len + 12) ((crateOf zs).map (Value.int .u8)) by
    have e : 8 + len + 4 = len + 12 := by omega
    rw [crateOf, hl, ← e]; exact own6)
  clear own6 g6 HO5 HS5 B5
  go_wp2
  exact bodyPost_ret (v := .tuple #[v6, .int .i64 0]) (by simp [results, Try.results8, go_sem]) rfl ⟨v6, rfl, HO6.out, B6⟩

theorem put_big (a : Option Addr) (len cap : Nat) (w : World) (hm : 4096 < len) (hM : len ≤ maxLen) :
    Calls Try.prog 8 #[.slice a len cap] w fun e w' => e = .returned (.tuple #[.slice none 0 0, .int .i64 31]) ∧ w = w' := by
  unfold maxLen at hM
  go_enter Try.func8, Try.ntmps8
  go_wp2
  exact bodyPost_ret (v := .tuple #[.slice none 0 0, .int .i64 31]) (by simp [results, Try.results8, go_sem]) rfl ⟨rfl, rfl⟩

theorem rput_big (a : Option Addr) (len cap : Nat) (w : World) (hm : 4096 < len) (hM : len ≤ maxLen) :
    Calls Try.prog 9 #[.slice a len cap] w fun e w' => e = .returned (.tuple #[.slice none 0 0, .int .i64 31]) ∧ w = w' := by
  unfold maxLen at hM
  go_enter Try.func9, Try.ntmps9
  go_wp2
  exact bodyPost_ret (v := .tuple #[.slice none 0 0, .int .i64 31]) (by simp [results, Try.results9, go_sem]) rfl ⟨rfl, rfl⟩

theorem rput_any (a : Option Addr) (len cap : Nat) (zs : List Int) (w : World) (hB : Bytes w a len zs) (hm : len ≤ 4096) :
    Calls Try.prog 9 #[.slice a len cap] w fun e w' => ∃ v, e = .returned (.tuple #[v, .int .i64 0]) ∧ w'.ownsRow w.heap.size 5 1 v (len + 12) ((crateOf zs).map (Value.int .u8)) ∧ Below w.heap.size w w' := by
  obtain ⟨i0, hi, hz0, hz1, hz2⟩ := info_parts info5
  have HB := Lib.hid hB
  have C0 := Lib.hid (fun w => rfour_any len (by omega) w)
  have hl := hB.1
  have hr := Lib.hid hB.2.1
  clear hB
  go_enter Try.func9, Try.ntmps9
  go_wp2_with fail
  refine (C0.out _).mono ?_
  rintro e w1 ⟨v1, rfl, own1, bel1⟩
  rw [fourOf_len] at own1
  have HO1 := Lib.hid own1
  clear own1
  go_wp2_with fail
  refine (C0.out _).mono ?_
  rintro e w2 ⟨v2, rfl, own2, bel2⟩
  obtain ⟨ad2, k2, rfl, hb2⟩ := own_bytes own2 (fourOf_range _) (by rw [fourOf_len]; unfold maxLen; omega)
  rw [fourOf_len] at hb2 ⊢
  have HB2 := Lib.hid hb2
  have HO2 := Lib.hid (own_below HO1.out bel2)
  have B2 := bel1.trans (bel2.mono bel1.size)
  clear own2 hb2 HO1 bel1 bel2 C0
  go_wp2_with fail
  refine (rsumS_any _ _ _ _ _ HB2.out).mono ?_
  rintro e w3 ⟨rfl, bel3⟩
  have HO3 := Lib.hid (own_below HO2.out bel3)
  have B3 := B2.trans (bel3.mono B2.size)
  clear HO2 B2 bel3 HB2
  have hsz := B3.size
  have hs4 : (strOfNums (sum4 (fourOf len))).size = 4 := by rw [strOfNums_size, sum4_len]
  go_wp2_with (at_builtin; refine Lib.wpList_append_own_string _ rfl (.tmp 12) (.tmp 17) 22 9 rfl w.heap.size 5 i0 Try.underlying22 Try.underlying9 hi hz0 hz1 hz2 _ _ _ rfl HO3.out _ rfl ?c2 ?c3 ?c4 ?_)
  case c2 => rw [hs4]; unfold maxLen; omega
  case c3 => rw [hs4]; omega
  case c4 => omega
  intro v4 w4 own4 g4 _
  have B4 := B3.grown g4 hsz (own_ge HO3.out)
  rw [str_cells (sum4_range _), ← List.map_append] at own4
  try rw [hs4] at own4
  have HO4 := Lib.hid (show w4.ownsRow w.heap.size 5 1 v4 8 ((head8 len).map (Value.int .u8)) from own4)
  have HS4 := Lib.hid (HB.out.below B4).src
  have hsz4 := B4.size
  clear own4 g4 HO3 hs4 B3 hsz
  go_wp2_with (at_builtin; refine wpList_append_src rfl (.tmp 19) (.tmp 20) 22 rfl w.heap.size 5 i0 (.int .u8 0) 1 1 Try.underlying22 hi hz0 hz1 hz2 rfl (by decide) _ _ _ rfl HO4.out _ _ _ _ rfl HS4.out ?c2 ?c3 ?c4 ?_)
  case c2 => unfold maxLen; omega
  case c3 => omega
  case c4 => omega
  intro v5 w5 own5 g5
  have B5 := B4.grown g5 hsz4 (own_ge HO4.out)
  rw [← List.map_append] at own5
  have HO5 := Lib.hid own5
  have HB5 := Lib.hid (HB.out.below B5)
  clear own5 g5 HO4 HS4 B4 hsz4
  go_wp2_with fail
  refine (rsumS_any _ _ _ _ _ HB5.out).mono ?_
  rintro e w6 ⟨rfl, bel6⟩
  have HO6 := Lib.hid (own_below HO5.out bel6)
  have B6 := B5.trans (bel6.mono B5.size)
  clear HO5 HB5 bel6 B5
  have hsz := B6.size
  have hs4 : (strOfNums (sum4 zs)).size = 4 := by rw [strOfNums_size, sum4_len]
  go_wp2_with (at_builtin; refine Lib.wpList_append_own_string _ rfl (.tmp 22) (.tmp 24) 22 9 rfl w.heap.size 5 i0 Try.underlying22 Try.underlying9 hi hz0 hz1 hz2 _ _ _ rfl HO6.out _ rfl ?c2 ?c3 ?c4 ?_)
  case c2 => rw [hs4]; unfold maxLen; omega
  case c3 => rw [hs4]; omega
  case c4 => omega
  intro v7 w7 own7 g7 _
  have B7 := B6.grown g7 hsz (own_ge HO6.out)
  rw [str_cells (sum4_range _), ← List.map_append] at own7
  try rw [hs4] at own7
  have HO7 := Lib.hid (show w7.ownsRow w.heap.size 5 1 v7 (len + 12) ((crateOf zs).map (Value.int .u8)) by
    have e : 8 + len + 4 = len + 12 := by omega
    rw [crateOf, hl, ← e]; exact own7)
  clear own7 g7 HO6 hs4 B6
  go_wp2
  exact bodyPost_ret (v := .tuple #[v7, .int .i64 0]) (by simp [results, Try.results9, go_sem]) rfl ⟨v7, rfl, HO7.out, B7⟩
end Go.Proofs.Ytadgnemfjmiafaa
