/- zname: the document's Join, ten, Number. Conditions: the texts have at most 2000000 bytes. -/
import Derived.Test.YtegpoiepeaofgaaDoorZk
namespace Go.Proofs.YtegpoiepeaofgaaDoor
open Go Go.RowKit Zn
set_option linter.unusedVariables false
set_option linter.unusedSimpArgs false
variable {w w' : World}

theorem src_strs {ad : Option Addr} {L : List Nm} (h : Strs w ad L) : Src w ad L.length 1 (scells L) := by
  refine ⟨by rw [scells_len]; omega, scells_one L, ?_⟩
  rcases h with rfl | ⟨g, off, rfl, h1, h2⟩
  · exact .inl rfl
  · refine .inr ⟨_, rfl, fun j u hj => ?_⟩
    unfold scells at hj
    rw [List.getElem?_map] at hj
    cases hx : L[j]? with
    | none => rw [hx] at hj; cases hj
    | some x =>
      rw [hx] at hj
      obtain rfl : Value.string ⟨x.toArray⟩ = u := by simpa using hj
      rw [Addr.add_lit]
      exact h2 j x hx
theorem join_yes {l m : Nm} {L : List Nm} (h : namesO l = some L) (hn : nameB m = true) (h8 : L.length < 8) : joinOk l m = true ∧ joinZ l m = pathOf (L ++ [m]) := by
  have hv : validZ l = true := by unfold validZ; rw [h]; rfl
  have hj : joinOk l m = true := by unfold joinOk; rw [hv, hn, ls_of h]; simp [h8]
  exact ⟨hj, by unfold joinZ; rw [hj, if_pos rfl, ls_of h]⟩
set_option maxHeartbeats 1000000 in
theorem rjoin_any (s t : ByteArray) (w : World) (hs : s.size ≤ 2000000) (ht : t.size ≤ 2000000) : Calls Tryd.prog 24 #[.string s, .string t] w (JoinedTo w s.data.toList t.data.toList) := by
  cases hv : validZ s.data.toList
  · have HNO := Lib.hid (show joinOk s.data.toList t.data.toList = false by unfold joinOk; rw [hv]; rfl)
    have C1 := Lib.hid (rnames_no s w (by omega) hv)
    clear hv
    go_enter Tryd.func24, Tryd.ntmps24
    go_wp2_with fail
    refine C1.out.mono ?_
    rintro e w1 ⟨ad, n, c, rfl, b1⟩
    have B1 := Lib.hid b1
    clear b1
    go_wp2_with fail
    exact ret_two rfl rfl (x := .string ⟨#[]⟩) (y := .bool false) rfl rfl (JoinedTo.no HNO.out B1.out)
  obtain ⟨L, hL⟩ := valid_some hv
  obtain ⟨_, l8, lna⟩ := (names_iff _ _).1 hL
  have C1 := Lib.hid (rnames_yes s w (by omega) L hL)
  have C2 := fun w1 => rname_any t w1 (by omega)
  cases hn : nameB t.data.toList
  · have HNO := Lib.hid (show joinOk s.data.toList t.data.toList = false by unfold joinOk; rw [hn]; simp)
    rw [hn] at C2
    have C2 := Lib.hid C2
    clear hv hL hn lna
    go_enter Tryd.func24, Tryd.ntmps24
    go_wp2_with fail
    refine C1.out.mono ?_
    rintro e w1 ⟨ad, c, rfl, hc, hS, h0, b1⟩
    have B1 := Lib.hid b1
    clear b1 hS h0
    go_wp2_with fail
    refine (C2.out _).mono ?_
    rintro e w2 ⟨rfl, rfl⟩
    go_wp2_with fail
    exact ret_two rfl rfl (x := .string ⟨#[]⟩) (y := .bool false) rfl rfl (JoinedTo.no HNO.out B1.out)
  rw [hn] at C2
  have C2 := Lib.hid C2
  by_cases h8 : L.length = 8
  · have HNO := Lib.hid (show joinOk s.data.toList t.data.toList = false by unfold joinOk; rw [ls_of hL, h8]; simp)
    rw [h8] at C1
    clear hv hL hn lna h8
    go_enter Tryd.func24, Tryd.ntmps24
    go_wp2_with fail
    refine C1.out.mono ?_
    rintro e w1 ⟨ad, c, rfl, hc, hS, h0, b1⟩
    have B1 := Lib.hid b1
    clear b1 hS h0
    go_wp2_with fail
    refine (C2.out _).mono ?_
    rintro e w2 ⟨rfl, rfl⟩
    go_wp2_with fail
    exact ret_two rfl rfl (x := .string ⟨#[]⟩) (y := .bool false) rfl rfl (JoinedTo.no HNO.out B1.out)
  · have HY := Lib.hid (join_yes hL hn (by omega))
    have h8b : ((L.length : Int) == 8) = false := by rw [beq_eq_false_iff_ne]; omega
    have HALL := Lib.hid (show (L ++ [t.data.toList]).all nameB = true by rw [List.all_append, lna]; simp [hn])
    obtain ⟨i0, hi, hz0, hz1, hz2⟩ := info_parts row9
    have HI := Lib.hid hi
    have HZZ := Lib.hid hz0
    clear hv hL hn lna hi hz0
    go_enter Tryd.func24, Tryd.ntmps24
    go_wp2_with fail
    refine C1.out.mono ?_
    rintro e w1 ⟨ad, c, rfl, hc, hS, h0, b1⟩
    have HS := Lib.hid hS
    have B1 := Lib.hid b1
    clear b1 hS h0
    go_wp2_with fail
    refine (C2.out _).mono ?_
    rintro e w2 ⟨rfl, rfl⟩
    have HO := Lib.hid (World.ownsRow_lit (base := w1.heap.size) (e := 9) (size := 1) w1 #[] 0 (Nat.le_refl _) (by decide) rfl)
    have HSB := Lib.hid (src_strs (HS.out.below ((Below.refl w1.heap.size w1).alloc (Nat.le_refl _) (.cells #[] 9))))
    have HSZ := Lib.hid (show w1.heap.size ≤ (w1.alloc (.cells #[] 9)).heap.size by simp)
    have BB := Lib.hid ((Below.refl w1.heap.size w1).alloc (Nat.le_refl _) (.cells #[] 9))
    go_wp2_with (first | (at_builtin; refine wpList_append_at rfl (.tmp 25) (.tmp 26) 38 rfl w1.heap.size 9 i0 _ 1 16 Tryd.underlying38 HI.out HZZ.out hz1 hz2 rfl (by decide) _ _ _ rfl HO.out _ _ _ _ rfl HSB.out (by unfold maxLen; omega) (by omega) HSZ.out ?_; intro v6 w6 own6 g6 at6; obtain ⟨ad6, c6, rfl, hc6⟩ := own_shape own6; simp only [Nat.zero_add, List.nil_append] at own6; have HR6 := Lib.hid (own6.alloc (.cells #[.string t] 9)); have HSX := Lib.hid (src9 w6 t); have B6 := Lib.hid (BB.out.grown g6 HSZ.out (own_ge HO.out)); have HSZ6 := Lib.hid (show w1.heap.size ≤ (w6.alloc (.cells #[.string t] 9)).heap.size by have := B6.out.size; simp; omega); have B6A := Lib.hid (B6.out.alloc B6.out.size (.cells #[.string t] 9)); clear own6 g6 at6 HSB HO HSZ BB B6) | (at_builtin; refine wpList_append_at rfl (.tmp 27) (.tmp 29) 38 rfl w1.heap.size 9 i0 _ 1 16 Tryd.underlying38 HI.out HZZ.out hz1 hz2 rfl (by decide) _ _ _ rfl HR6.out _ _ _ _ rfl HSX.out (by unfold maxLen; omega) (by omega) HSZ6.out ?_; intro v7 w7 own7 g7 at7; obtain ⟨ad7, c7, rfl, hc7⟩ := own_shape own7))
    have B7 := Lib.hid (B1.out.trans ((B6A.out.grown g7 HSZ6.out (own_ge HR6.out)).mono B1.out.size))
    have hsn : scells L ++ [Value.string t] = scells (L ++ [t.data.toList]) := by rw [scells_snoc]
    rw [hsn] at own7
    have hln : (L ++ [t.data.toList]).length = L.length + 1 := by simp
    have own7' : w7.ownsRow w1.heap.size 9 1 (.slice ad7 (L.length + 1) c7) (L ++ [t.data.toList]).length (scells (L ++ [t.data.toList])) := by rw [hln]; exact own7
    have C5 := rpath_any ad7 c7 (L ++ [t.data.toList]) w7 (strs_own own7') (by rw [hln]; omega) HALL.out
    rw [hln, ← HY.out.2] at C5
    obtain ⟨J, hJ⟩ : ∃ J, J = joinZ s.data.toList t.data.toList := ⟨_, rfl⟩
    rw [← hJ] at C5
    have HJ := Lib.hid hJ
    clear hJ
    have C5 := Lib.hid C5
    clear own7 own7' hsn hln g7 at7
    go_wp2_with fail
    refine C5.out.mono ?_
    rintro e w8 ⟨rfl, rfl⟩
    go_wp2_with fail
    exact ret_two rfl rfl (x := .string ⟨J.toArray⟩) (y := .bool true) rfl rfl ⟨by rw [HJ.out, HY.out.1], B7.out⟩
end Go.Proofs.YtegpoiepeaofgaaDoor
