/- zname: Number. Conditions: the text has at most 2000000 bytes; the library's variable holds a number. -/
import Derived.Test.YtegpoiepeaofgaaDoorZd
namespace Go.Proofs.YtegpoiepeaofgaaDoor
open Go Go.RowKit Zn
set_option linter.unusedVariables false
set_option linter.unusedSimpArgs false
variable {w w' : World}

def Numbered (w : World) (l : Nm) (n : Int) (e : Ending) (w' : World) : Prop := e = .returned (.tuple #[.string ⟨(numZ l n).toArray⟩, .bool (numOk l n)]) ∧ Below w.heap.size w w'
theorem Numbered.no {l : Nm} {n : Int} (h : numOk l n = false) (hb : Below w.heap.size w w') : Numbered w l n (.returned (.tuple #[.string ⟨#[]⟩, .bool false])) w' := by
  refine ⟨?_, hb⟩
  unfold numZ; rw [h]; rfl
theorem Numbered.yes {l : Nm} {n : Int} {p : ByteArray} (h : numOk l n = true) (hp : p.data.toList = l ++ tenR 10 n.toNat) (hb : Below w.heap.size w w') : Numbered w l n (.returned (.tuple #[.string p, .bool true])) w' := by
  refine ⟨?_, hb⟩
  unfold numZ; rw [h, if_pos rfl, ← hp]
/-- the ten bytes behind i rounds. -/
def tcells (n i : Nat) : List Value := (List.replicate (10 - i) (Value.int .u8 0)) ++ (tenR i n).map fun c => Value.int .u8 c.toNat
theorem tcells_zero (n : Nat) : tcells n 0 = List.replicate 10 (Value.int .u8 0) := by simp [tcells, tenR]
theorem tcells_next (n i : Nat) (h : i < 10) : (tcells n i).set (9 - i) (.int .u8 ((48 + n / 10 ^ i % 10 : Nat) : Int)) = tcells n (i + 1) := by
  unfold tcells
  rw [tenR_front, show 10 - i = (9 - i) + 1 by omega, List.replicate_succ', show 10 - (i + 1) = 9 - i by omega, List.append_assoc, List.set_append_right _ _ (by simp)]
  simp [dig_nat]
theorem tcells_len (n i : Nat) (h : i ≤ 10) : (tcells n i).length = 10 := by unfold tcells; rw [List.length_append, List.length_replicate, List.length_map, tenR_len]; omega
theorem number_core (s : ByteArray) (m : Nat) (w : World) (hs : s.size ≤ 2000000) (hm : Mx w) (h1 : (s.toList == [47]) = false) (hv : validZ s.data.toList = true) (h3 : m ≤ 9999999999) (hok : numOk s.data.toList m = validZ (s.data.toList ++ tenR 10 m)) :
    Calls Tryd.prog 9 #[.string s, .int .i64 m] w (Numbered w s.data.toList m) := by
  have C1 := valid_any s w (by omega) hm
  rw [hv] at C1
  have C1 := Lib.hid C1
  have HM := Lib.hid hm
  have HOK := Lib.hid hok
  have HMM := Lib.hid h3
  have h2d : decide ((m : Int) < 0) = false := by rw [decide_eq_false_iff_not]; omega
  have h3d : decide ((9999999999 : Int) < (m : Int)) = false := by rw [decide_eq_false_iff_not]; omega
  clear hv hm hok
  go_enter Tryd.func9, Tryd.ntmps9
  go_wp2_with fail
  refine C1.out.mono ?_
  rintro e w1 ⟨rfl, b1⟩
  have B1 := Lib.hid b1
  have M1 := Lib.hid (HM.out.below b1)
  have HX1 := Lib.hid (Box.new w1 36 (tcells m 0).toArray)
  have HX1 : Hid (Box (w1.alloc (.cells #[.int .u8 0, .int .u8 0, .int .u8 0, .int .u8 0, .int .u8 0, .int .u8 0, .int .u8 0, .int .u8 0, .int .u8 0, .int .u8 0] 36)) w1.heap.size 36 (tcells m 0).toArray) := HX1.out
  have A1 := Lib.hid ((Below.refl w1.heap.size w1).alloc (Nat.le_refl _) (.cells #[.int .u8 0, .int .u8 0, .int .u8 0, .int .u8 0, .int .u8 0, .int .u8 0, .int .u8 0, .int .u8 0, .int .u8 0, .int .u8 0] 36))
  clear b1 C1
  go_wp2_with fail
  generalize w1.alloc (.cells #[.int .u8 0, .int .u8 0, .int .u8 0, .int .u8 0, .int .u8 0, .int .u8 0, .int .u8 0, .int .u8 0, .int .u8 0, .int .u8 0] 36) = w2 at HX1 A1 ⊢
  go_loopw [1, 7, 24] (fun q _ i wr => ∃ k : Nat, k ≤ 10 ∧ i = .int .i64 k ∧ q = .int .i64 ((m / 10 ^ k : Nat) : Int) ∧ Box wr w1.heap.size 36 (tcells m k).toArray ∧ Below w1.heap.size w1 wr) (fun _ _ i _ => 10 - (intOf i).toNat)
  case atStart => exact ⟨0, by omega, rfl, by simp, HX1.out, A1.out⟩
  case round =>
    obtain ⟨k, hk, rfl, rfl, hx, hbel⟩ := hrel
    have HX := Lib.hid hx
    have HB := Lib.hid hbel
    obtain ⟨q, hq⟩ : ∃ q, q = m / 10 ^ k := ⟨_, rfl⟩
    have hqm : q ≤ 9999999999 := by rw [hq]; exact Nat.le_trans (Nat.div_le_self _ _) h3
    rw [← hq]
    have HQ := Lib.hid hq
    have hfz : ∀ j, wr.frozen? ⟨w1.heap.size, j, none⟩ = false := fun j => hx.frozen j
    clear hx hbel hq
    by_cases hlt : k < 10
    · obtain ⟨v, hv⟩ : ∃ v, (tcells m k)[9 - k]? = some v := ⟨_, List.getElem?_eq_getElem (by rw [tcells_len m k (by omega)]; omega)⟩
      have d0 : wr.cell? ⟨w1.heap.size, 9 - k, none⟩ = some v := by rw [HX.out.cell]; simpa using hv
      have f0 := hfz (9 - k)
      have hi0 : (0 : Int) ≤ 9 - (k : Int) := by omega
      have hi1 : 9 - (k : Int) < 10 := by omega
      have hin : (9 - (k : Int)).toNat = 9 - k := by omega
      clear hv hfz
      go_wp2_with fail
      go_roundw
      case rel =>
        refine ⟨k + 1, by omega, by go_num, ?_, ?_, HB.out.setCell (p := ⟨w1.heap.size, 9 - k, none⟩) (Nat.le_refl _) _⟩
        · rw [Nat.pow_succ, ← Nat.div_div_eq_div_mul, ← HQ.out, Int.natCast_ediv]; rfl
        · have h2 := HX.out.set (9 - k) (.int .u8 (48 + (q : Int) % 10))
          have h3 := tcells_next m k hlt
          rw [← HQ.out] at h3
          have h4 : ((48 + q % 10 : Nat) : Int) = 48 + (q : Int) % 10 := by omega
          rw [h4] at h3
          rw [← h3, ← List.setIfInBounds_toArray]
          exact h2
      case measure => simp [intOf]; omega
    · obtain rfl : k = 10 := by omega
      obtain ⟨T, hT⟩ : ∃ T, T = tenR 10 m := ⟨_, rfl⟩
      have hTl : T.length ≤ 10 := by rw [hT, tenR_len]; exact Nat.le_refl _
      have hcv := run_convert_bytes_back (P := Tryd.prog) wr 37 9 5 ⟨w1.heap.size, 0, none⟩ 10 T Tryd.underlying37 Tryd.underlying5 Tryd.underlying9 (fun j hj => by
        rw [Addr.add_lit, HX.out.cell]
        simp only [Nat.zero_add]
        unfold tcells
        rw [← hT]
        simp [hj])
      rw [show T.length = 10 by rw [hT, tenR_len]] at hcv
      have HT := Lib.hid hT
      have hPD : (s ++ (⟨T.toArray⟩ : ByteArray)).data.toList = s.data.toList ++ T := by rw [cat_mk]
      have hPS : (s ++ (⟨T.toArray⟩ : ByteArray)).size ≤ 4194304 := by
        rw [Lib.size_eq, hPD, List.length_append, ← Lib.size_eq]; omega
      have C4 := valid_any (s ++ (⟨T.toArray⟩ : ByteArray)) wr hPS (M1.out.below HB.out)
      rw [hPD] at C4
      have HPD := Lib.hid hPD
      rw [← hT] at HOK
      clear hfz hPD hPS hT
      cases hz : validZ (s.data.toList ++ T)
      · rw [hz] at C4 HOK
        have C4 := Lib.hid C4
        clear hz
        go_wp2_with fail
        refine C4.out.mono ?_
        rintro e w4 ⟨rfl, b4⟩
        have B4 := Lib.hid ((B1.out.trans (HB.out.mono B1.out.size)).trans (b4.mono (Nat.le_trans B1.out.size HB.out.size)))
        clear b4
        go_wp2_with fail
        exact ret_two rfl rfl (x := .string ⟨#[]⟩) (y := .bool false) rfl rfl (Numbered.no HOK.out B4.out)
      · rw [hz] at C4 HOK
        have C4 := Lib.hid C4
        clear hz
        go_wp2_with fail
        refine C4.out.mono ?_
        rintro e w4 ⟨rfl, b4⟩
        have B4 := Lib.hid ((B1.out.trans (HB.out.mono B1.out.size)).trans (b4.mono (Nat.le_trans B1.out.size HB.out.size)))
        clear b4
        go_wp2_with fail
        exact ret_two rfl rfl (x := .string (s ++ ⟨T.toArray⟩)) (y := .bool true) rfl rfl (Numbered.yes HOK.out (by rw [HPD.out, HT.out]; rfl) B4.out)
theorem number_any (s : ByteArray) (n : Int) (w : World) (hs : s.size ≤ 2000000) (hm : Mx w) : Calls Tryd.prog 9 #[.string s, .int .i64 n] w (Numbered w s.data.toList n) := by
  have C1 := valid_any s w (by omega) hm
  by_cases h0 : s.data.toList = [47]
  · have HNO := Lib.hid (show numOk s.data.toList n = false by unfold numOk; rw [h0]; rfl)
    have h0' : (s.toList == [47]) = true := by rw [Lib.toList_data, h0]; rfl
    clear h0 C1 hm
    go_enter Tryd.func9, Tryd.ntmps9
    go_wp2_with fail
    exact ret_two rfl rfl (x := .string ⟨#[]⟩) (y := .bool false) rfl rfl (Numbered.no HNO.out (Below.refl _ _))
  have h0' : (s.toList == [47]) = false := by rw [Lib.toList_data]; simpa using h0
  cases hv : validZ s.data.toList
  · have HNO := Lib.hid (show numOk s.data.toList n = false by unfold numOk; rw [hv]; simp)
    rw [hv] at C1
    have C1 := Lib.hid C1
    clear h0 hv hm
    go_enter Tryd.func9, Tryd.ntmps9
    go_wp2_with fail
    refine C1.out.mono ?_
    rintro e w1 ⟨rfl, b1⟩
    have B1 := Lib.hid b1
    clear b1
    go_wp2_with fail
    exact ret_two rfl rfl (x := .string ⟨#[]⟩) (y := .bool false) rfl rfl (Numbered.no HNO.out B1.out)
  by_cases h2 : 0 ≤ n
  rotate_left
  · have HNO := Lib.hid (show numOk s.data.toList n = false by unfold numOk; simp [h2])
    have h2' : n < 0 := by omega
    rw [hv] at C1
    have C1 := Lib.hid C1
    clear h0 hv hm h2
    go_enter Tryd.func9, Tryd.ntmps9
    go_wp2_with fail
    refine C1.out.mono ?_
    rintro e w1 ⟨rfl, b1⟩
    have B1 := Lib.hid b1
    clear b1
    go_wp2_with fail
    exact ret_two rfl rfl (x := .string ⟨#[]⟩) (y := .bool false) rfl rfl (Numbered.no HNO.out B1.out)
  by_cases h3 : n ≤ 9999999999
  rotate_left
  · have HNO := Lib.hid (show numOk s.data.toList n = false by unfold numOk; simp [h3])
    have h3' : 9999999999 < n := by omega
    have h2' : decide (n < 0) = false := by simp; omega
    rw [hv] at C1
    have C1 := Lib.hid C1
    clear h0 hv hm h3
    go_enter Tryd.func9, Tryd.ntmps9
    go_wp2_with fail
    refine C1.out.mono ?_
    rintro e w1 ⟨rfl, b1⟩
    have B1 := Lib.hid b1
    clear b1
    go_wp2_with fail
    exact ret_two rfl rfl (x := .string ⟨#[]⟩) (y := .bool false) rfl rfl (Numbered.no HNO.out B1.out)
  · obtain ⟨m, rfl⟩ := Int.eq_ofNat_of_zero_le h2
    refine number_core s m w hs hm h0' hv (by omega) ?_
    unfold numOk
    rw [hv, show (s.data.toList == [47]) = false by simpa using h0, Int.toNat_natCast]
    simp [h3]
end Go.Proofs.YtegpoiepeaofgaaDoor
