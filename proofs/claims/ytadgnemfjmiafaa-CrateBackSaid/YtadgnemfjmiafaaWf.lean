/- What is taken out of a crate; alive. Conditions: none. -/
import Derived.Test.YtadgnemfjmiafaaWe
namespace Go.Proofs.Ytadgnemfjmiafaa
open Go.RowKit

theorem numOf_four (n : Nat) (hn : n < 4294967296) (l : List Int) : numOf (fourOf n ++ l) = n := by
  simp [numOf, fourOf]; omega

theorem getOf_crate (zs more : List Int) (hl : zs.length ≤ 4096) : getOf (crateOf zs ++ more) = (zs, zs.length + 12, 0) := by
  have e : crateOf zs ++ more = fourOf zs.length ++ (sum4 (fourOf zs.length) ++ (zs ++ (sum4 zs ++ more))) := by simp [crateOf, head8]
  have e8 : crateOf zs ++ more = head8 zs.length ++ (zs ++ (sum4 zs ++ more)) := by simp [crateOf]
  have e9 : crateOf zs ++ more = (head8 zs.length ++ zs) ++ (sum4 zs ++ more) := by simp [crateOf]
  have hN : numOf (crateOf zs ++ more) = zs.length := by rw [e]; exact numOf_four _ (by omega) _
  have hlen : (crateOf zs ++ more).length = zs.length + 12 + more.length := by rw [List.length_append, crateOf_len]
  have h4 : (crateOf zs ++ more).drop 4 = sum4 (fourOf zs.length) ++ (zs ++ (sum4 zs ++ more)) := by rw [e]; exact List.drop_left' (fourOf_len _)
  have t4 : (crateOf zs ++ more).take 4 = fourOf zs.length := by rw [e]; exact List.take_left' (fourOf_len _)
  have h8 : (crateOf zs ++ more).drop 8 = zs ++ (sum4 zs ++ more) := by rw [e8]; exact List.drop_left' (head8_len _)
  have h9 : (crateOf zs ++ more).drop (8 + zs.length) = sum4 zs ++ more := by rw [e9]; exact List.drop_left' (by rw [List.length_append, head8_len])
  have n4 : numOf (sum4 (fourOf zs.length) ++ (zs ++ (sum4 zs ++ more))) = (Tally.sum (fourOf zs.length)).toNat := numOf_four _ (BitVec.isLt _) _
  have n9 : numOf (sum4 zs ++ more) = (Tally.sum zs).toNat := numOf_four _ (BitVec.isLt _) _
  rw [getOf, hN, h4, t4, h8, h9, n4, n9, List.take_left' rfl, if_neg (by omega), if_neg (by simp), if_neg (by omega), if_neg (by omega), if_neg (by simp)]

theorem own_slice {w : World} {base e n : Nat} {v : Value} {zs : List Int} (h : w.ownsRow base e 1 v n (zs.map (Value.int .u8))) (hr : ∀ x ∈ zs, 0 ≤ x ∧ x < 256) (hm : n ≤ maxLen) :
    ∃ ad c, v = .slice ad n c ∧ n ≤ c ∧ Bytes w ad n zs := by
  rcases h.2 with ⟨rfl, rfl⟩ | ⟨g, cap, cur, rfl, _, _, hc, _⟩
  · exact ⟨none, 0, rfl, Nat.le_refl _, by simpa using h.1, hr, hm, .inl rfl⟩
  · exact ⟨_, _, rfl, hc, Bytes.of_own h hr hm⟩

theorem crate_ab_range : ∀ x ∈ crateOf [97, 98] ++ [9], 0 ≤ x ∧ x < 256 := by
  intro x hx
  rcases List.mem_append.1 hx with h | h
  · exact crateOf_range (by intro y hy; simp at hy; omega) x h
  · simp at h; omega
theorem get_ab {w w' : World} {e : Ending} (h : Got w (crateOf [97, 98] ++ [9]) e w') :
    ∃ ad c, e = .returned (.tuple #[.slice ad 2 c, .int .i64 14, .int .i64 0]) ∧ Bytes w' ad 2 [97, 98] ∧ Below w.heap.size w w' := by
  obtain ⟨ad, c, h1, _, h3, h4⟩ := h
  rw [getOf_crate [97, 98] [9] (by simp)] at h1 h3
  exact ⟨ad, c, h1, h3, h4⟩

theorem alive_any (w : World) : Calls Try.prog 10 #[] w fun e w' => e = .returned (.bool true) ∧ Below w.heap.size w w' := by
  obtain ⟨i0, hi, hz0, hz1, hz2⟩ := info_parts info5
  have kc := fun (w : World) (C : Array Value) (n c : Nat) => Lib.run_convert_bytes_const (P := Try.prog) w 22 5 C n c Try.underlying22 Try.underlying5
  go_enter Try.func10, Try.ntmps10
  go_wp2_with fail
  refine (put_any _ _ _ [97, 98] _ (bytes_new _ _ _ _ _ rfl (by simp) (by unfold maxLen; simp)) (by simp)).mono ?_
  rintro e w1 ⟨v1, rfl, own1, bel1⟩
  have B1 : Below w.heap.size w w1 := ((Below.refl w.heap.size w).alloc (Nat.le_refl _) _).trans (bel1.mono (by simp))
  obtain ⟨ad1, k1, rfl, _, hb1⟩ := own_slice own1 (crateOf_range (by simp)) (by unfold maxLen; simp)
  have HB1 := Lib.hid (hb1.alloc (.cells #[] 5)).src
  have HO1 := Lib.hid (World.ownsRow_lit (base := w.heap.size) (e := 5) (size := 1) w1 #[] 0 B1.size (by decide) rfl)
  have hsz1 := B1.size
  clear own1 bel1 hb1
  go_wp2_with (at_builtin; refine wpList_append_src rfl (.tmp 13) (.tmp 14) 22 rfl w.heap.size 5 i0 (.int .u8 0) 1 1 Try.underlying22 hi hz0 hz1 hz2 rfl (by decide) _ _ _ rfl HO1.out _ _ _ _ rfl HB1.out ?c2 ?c3 ?c4 ?_)
  case c2 => unfold maxLen; simp
  case c3 => simp
  case c4 => simp; omega
  intro v2 w2 own2 g2
  have B2 := (B1.alloc hsz1 (.cells #[] 5)).grown g2 (by simp; omega) (own_ge HO1.out)
  have HO2 := Lib.hid (show w2.ownsRow w.heap.size 5 1 v2 14 ((crateOf [97, 98]).map (Value.int .u8)) by simpa using own2)
  have hsz2 := B2.size
  clear own2 g2 HO1 HB1 B1
  go_wp2_with (at_builtin; refine wpList_append_src rfl (.tmp 15) (.tmp 16) 22 rfl w.heap.size 5 i0 (.int .u8 0) 1 1 Try.underlying22 hi hz0 hz1 hz2 rfl (by decide) _ _ _ rfl (HO2.out.alloc _) _ 1 1 [.int .u8 9] rfl ?c1 ?c2 ?c3 ?c4 ?_)
  case c1 => exact ⟨rfl, by simp [Value.oneCell'], .inr ⟨_, rfl, fun j u hj => by
        match j, hj with
        | 0, hj => simp at hj; subst hj; simp [Addr.add]⟩⟩
  case c2 => unfold maxLen; omega
  case c3 => omega
  case c4 => simp; omega
  intro v3 w3 own3 g3
  have B3 := (B2.alloc hsz2 (.cells #[.int .u8 9] 5)).grown g3 (by simp; omega) (own_ge HO2.out)
  have own3' : w3.ownsRow w.heap.size 5 1 v3 15 ((crateOf [97, 98] ++ [9]).map (Value.int .u8)) := by rw [List.map_append]; simpa using own3
  obtain ⟨ad3, k3, rfl, hk3, hb3⟩ := own_slice own3' crate_ab_range (by unfold maxLen; omega)
  have CG := Lib.hid (get_any ad3 15 k3 _ w3 hb3 hk3)
  have HB3 := Lib.hid B3
  clear own3 g3 own3' hk3 hb3 HO2 B2 B3 hsz2 hsz1
  go_wp2_with fail
  refine CG.out.mono ?_
  rintro e w4 hgot
  obtain ⟨ad4, k4, rfl, hb4, bel4⟩ := get_ab hgot
  have hs4 := hb4.str k4
  have B4 := Lib.hid (HB3.out.trans (bel4.mono HB3.out.size))
  have es : strOfNums [97, 98] = { data := #[97, 98] } := by decide
  rw [es] at hs4
  clear hgot CG hb4 bel4 HB3 es
  go_wp2_with fail
  go_ret
  exact ⟨rfl, B4.out⟩
end Go.Proofs.Ytadgnemfjmiafaa
