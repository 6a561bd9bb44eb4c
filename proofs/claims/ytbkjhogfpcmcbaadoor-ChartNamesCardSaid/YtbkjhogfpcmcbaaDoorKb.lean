/- chart: the document's Join and Number of paths (chapter 07's proofs over this seat). Conditions: as in each statement. -/
import Derived.Test.YtbkjhogfpcmcbaaDoorKa
namespace Go.Proofs.YtbkjhogfpcmcbaaDoor
open Go Go.RowKit Zn
set_option linter.unusedVariables false
set_option linter.unusedSimpArgs false
variable {w w' : World}
/- zname: Join, Under. Conditions: the texts have at most 2000000 bytes; the library's variable holds a number. -/
set_option linter.unusedVariables false
set_option linter.unusedSimpArgs false

def JoinedTo (w : World) (l m : Nm) (e : Ending) (w' : World) : Prop := e = .returned (.tuple #[.string ⟨(joinZ l m).toArray⟩, .bool (joinOk l m)]) ∧ Below w.heap.size w w'
theorem JoinedTo.no {l m : Nm} (h : joinOk l m = false) (hb : Below w.heap.size w w') : JoinedTo w l m (.returned (.tuple #[.string ⟨#[]⟩, .bool false])) w' := by
  refine ⟨?_, hb⟩
  unfold joinZ; rw [h]; rfl
theorem JoinedTo.yes {l m : Nm} {p : ByteArray} (h : joinOk l m = true) (hp : p.data.toList = pathOf (lsOf l ++ [m])) (hb : Below w.heap.size w w') : JoinedTo w l m (.returned (.tuple #[.string p, .bool true])) w' := by
  refine ⟨?_, hb⟩
  unfold joinZ; rw [h, if_pos rfl, ← hp]
/- zname: the document's Join, ten, Number. Conditions: the texts have at most 2000000 bytes. -/
set_option linter.unusedVariables false
set_option linter.unusedSimpArgs false

theorem src_strs {ad : Option Addr} {L : List Nm} (h : Strs w ad L) : Src w ad L.length 1 (scells L) := by
  refine ⟨by rw [scells_len]; omega, scells_one L, ?_⟩
  rcases h with rfl | ⟨g, off, rfl, h1, h2⟩
  · exact .inl rfl
  · refine .inr ⟨_, rfl, fun j u hj => ?_⟩
    unfold scells at hj
    rw [List.getElem?_map] at hj
    cases hx : L[j]? with
    | none => rw [hx] at hj; cases hj
    | some x =>
      rw [hx] at hj
      obtain rfl : Value.string ⟨x.toArray⟩ = u := by simpa using hj
      rw [Addr.add_lit]
      exact h2 j x hx
theorem join_yes {l m : Nm} {L : List Nm} (h : namesO l = some L) (hn : nameB m = true) (h8 : L.length < 8) : joinOk l m = true ∧ joinZ l m = pathOf (L ++ [m]) := by
  have hv : validZ l = true := by unfold validZ; rw [h]; rfl
  have hj : joinOk l m = true := by unfold joinOk; rw [hv, hn, ls_of h]; simp [h8]
  exact ⟨hj, by unfold joinZ; rw [hj, if_pos rfl, ls_of h]⟩
set_option maxHeartbeats 1000000 in
theorem rjoin_any (s t : ByteArray) (w : World) (hs : s.size ≤ 2000000) (ht : t.size ≤ 2000000) : Calls Tryd.prog 22 #[.string s, .string t] w (JoinedTo w s.data.toList t.data.toList) := by
  cases hv : validZ s.data.toList
  · have HNO := Lib.hid (show joinOk s.data.toList t.data.toList = false by unfold joinOk; rw [hv]; rfl)
    have C1 := Lib.hid (rnames_no s w (by omega) hv)
    clear hv
    go_enter Tryd.func22, Tryd.ntmps22
    go_wp2_with fail
    refine C1.out.mono ?_
    rintro e w1 ⟨ad, n, c, rfl, b1⟩
    have B1 := Lib.hid b1
    clear b1
    go_wp2_with fail
    exact ret_two rfl rfl (x := .string ⟨#[]⟩) (y := .bool false) rfl rfl (JoinedTo.no HNO.out B1.out)
  obtain ⟨L, hL⟩ := valid_some hv
  obtain ⟨_, l8, lna⟩ := (names_iff _ _).1 hL
  have C1 := Lib.hid (rnames_yes s w (by omega) L hL)
  have C2 := fun w1 => rname_any t w1 (by omega)
  cases hn : nameB t.data.toList
  · have HNO := Lib.hid (show joinOk s.data.toList t.data.toList = false by unfold joinOk; rw [hn]; simp)
    rw [hn] at C2
    have C2 := Lib.hid C2
    clear hv hL hn lna
    go_enter Tryd.func22, Tryd.ntmps22
    go_wp2_with fail
    refine C1.out.mono ?_
    rintro e w1 ⟨ad, c, rfl, hc, hS, h0, b1⟩
    have B1 := Lib.hid b1
    clear b1 hS h0
    go_wp2_with fail
    refine (C2.out _).mono ?_
    rintro e w2 ⟨rfl, rfl⟩
    go_wp2_with fail
    exact ret_two rfl rfl (x := .string ⟨#[]⟩) (y := .bool false) rfl rfl (JoinedTo.no HNO.out B1.out)
  rw [hn] at C2
  have C2 := Lib.hid C2
  by_cases h8 : L.length = 8
  · have HNO := Lib.hid (show joinOk s.data.toList t.data.toList = false by unfold joinOk; rw [ls_of hL, h8]; simp)
    rw [h8] at C1
    clear hv hL hn lna h8
    go_enter Tryd.func22, Tryd.ntmps22
    go_wp2_with fail
    refine C1.out.mono ?_
    rintro e w1 ⟨ad, c, rfl, hc, hS, h0, b1⟩
    have B1 := Lib.hid b1
    clear b1 hS h0
    go_wp2_with fail
    refine (C2.out _).mono ?_
    rintro e w2 ⟨rfl, rfl⟩
    go_wp2_with fail
    exact ret_two rfl rfl (x := .string ⟨#[]⟩) (y := .bool false) rfl rfl (JoinedTo.no HNO.out B1.out)
  · have HY := Lib.hid (join_yes hL hn (by omega))
    have h8b : ((L.length : Int) == 8) = false := by rw [beq_eq_false_iff_ne]; omega
    have HALL := Lib.hid (show (L ++ [t.data.toList]).all nameB = true by rw [List.all_append, lna]; simp [hn])
    obtain ⟨i0, hi, hz0, hz1, hz2⟩ := info_parts row9
    have HI := Lib.hid hi
    have HZZ := Lib.hid hz0
    clear hv hL hn lna hi hz0
    go_enter Tryd.func22, Tryd.ntmps22
    go_wp2_with fail
    refine C1.out.mono ?_
    rintro e w1 ⟨ad, c, rfl, hc, hS, h0, b1⟩
    have HS := Lib.hid hS
    have B1 := Lib.hid b1
    clear b1 hS h0
    go_wp2_with fail
    refine (C2.out _).mono ?_
    rintro e w2 ⟨rfl, rfl⟩
    have HO := Lib.hid (World.ownsRow_lit (base := w1.heap.size) (e := 9) (size := 1) w1 #[] 0 (Nat.le_refl _) (by decide) rfl)
    have HSB := Lib.hid (src_strs (HS.out.below ((Below.refl w1.heap.size w1).alloc (Nat.le_refl _) (.cells #[] 9))))
    have HSZ := Lib.hid (show w1.heap.size ≤ (w1.alloc (.cells #[] 9)).heap.size by simp)
    have BB := Lib.hid ((Below.refl w1.heap.size w1).alloc (Nat.le_refl _) (.cells #[] 9))
    go_wp2_with (first | (at_builtin; refine wpList_append_at rfl (.tmp 25) (.tmp 26) 39 rfl w1.heap.size 9 i0 _ 1 16 Tryd.underlying39 HI.out HZZ.out hz1 hz2 rfl (by decide) _ _ _ rfl HO.out _ _ _ _ rfl HSB.out (by unfold maxLen; omega) (by omega) HSZ.out ?_; intro v6 w6 own6 g6 at6; obtain ⟨ad6, c6, rfl, hc6⟩ := own_shape own6; simp only [Nat.zero_add, List.nil_append] at own6; have HR6 := Lib.hid (own6.alloc (.cells #[.string t] 9)); have HSX := Lib.hid (src9 w6 t); have B6 := Lib.hid (BB.out.grown g6 HSZ.out (own_ge HO.out)); have HSZ6 := Lib.hid (show w1.heap.size ≤ (w6.alloc (.cells #[.string t] 9)).heap.size by have := B6.out.size; simp; omega); have B6A := Lib.hid (B6.out.alloc B6.out.size (.cells #[.string t] 9)); clear own6 g6 at6 HSB HO HSZ BB B6) | (at_builtin; refine wpList_append_at rfl (.tmp 27) (.tmp 29) 39 rfl w1.heap.size 9 i0 _ 1 16 Tryd.underlying39 HI.out HZZ.out hz1 hz2 rfl (by decide) _ _ _ rfl HR6.out _ _ _ _ rfl HSX.out (by unfold maxLen; omega) (by omega) HSZ6.out ?_; intro v7 w7 own7 g7 at7; obtain ⟨ad7, c7, rfl, hc7⟩ := own_shape own7))
    have B7 := Lib.hid (B1.out.trans ((B6A.out.grown g7 HSZ6.out (own_ge HR6.out)).mono B1.out.size))
    have hsn : scells L ++ [Value.string t] = scells (L ++ [t.data.toList]) := by rw [scells_snoc]
    rw [hsn] at own7
    have hln : (L ++ [t.data.toList]).length = L.length + 1 := by simp
    have own7' : w7.ownsRow w1.heap.size 9 1 (.slice ad7 (L.length + 1) c7) (L ++ [t.data.toList]).length (scells (L ++ [t.data.toList])) := by rw [hln]; exact own7
    have C5 := rpath_any ad7 c7 (L ++ [t.data.toList]) w7 (strs_own own7') (by rw [hln]; omega) HALL.out
    rw [hln, ← HY.out.2] at C5
    obtain ⟨J, hJ⟩ : ∃ J, J = joinZ s.data.toList t.data.toList := ⟨_, rfl⟩
    rw [← hJ] at C5
    have HJ := Lib.hid hJ
    clear hJ
    have C5 := Lib.hid C5
    clear own7 own7' hsn hln g7 at7
    go_wp2_with fail
    refine C5.out.mono ?_
    rintro e w8 ⟨rfl, rfl⟩
    go_wp2_with fail
    exact ret_two rfl rfl (x := .string ⟨J.toArray⟩) (y := .bool true) rfl rfl ⟨by rw [HJ.out, HY.out.1], B7.out⟩
/- zname: Number. Conditions: the text has at most 2000000 bytes; the library's variable holds a number. -/
set_option linter.unusedVariables false
set_option linter.unusedSimpArgs false

def Numbered (w : World) (l : Nm) (n : Int) (e : Ending) (w' : World) : Prop := e = .returned (.tuple #[.string ⟨(numZ l n).toArray⟩, .bool (numOk l n)]) ∧ Below w.heap.size w w'
theorem Numbered.no {l : Nm} {n : Int} (h : numOk l n = false) (hb : Below w.heap.size w w') : Numbered w l n (.returned (.tuple #[.string ⟨#[]⟩, .bool false])) w' := by
  refine ⟨?_, hb⟩
  unfold numZ; rw [h]; rfl
theorem Numbered.yes {l : Nm} {n : Int} {p : ByteArray} (h : numOk l n = true) (hp : p.data.toList = l ++ tenR 10 n.toNat) (hb : Below w.heap.size w w') : Numbered w l n (.returned (.tuple #[.string p, .bool true])) w' := by
  refine ⟨?_, hb⟩
  unfold numZ; rw [h, if_pos rfl, ← hp]
/-- the ten bytes behind i rounds. -/
def tcells (n i : Nat) : List Value := (List.replicate (10 - i) (Value.int .u8 0)) ++ (tenR i n).map fun c => Value.int .u8 c.toNat
theorem tcells_zero (n : Nat) : tcells n 0 = List.replicate 10 (Value.int .u8 0) := by simp [tcells, tenR]
theorem tcells_next (n i : Nat) (h : i < 10) : (tcells n i).set (9 - i) (.int .u8 ((48 + n / 10 ^ i % 10 : Nat) : Int)) = tcells n (i + 1) := by
  unfold tcells
  rw [tenR_front, show 10 - i = (9 - i) + 1 by omega, List.replicate_succ', show 10 - (i + 1) = 9 - i by omega, List.append_assoc, List.set_append_right _ _ (by simp)]
  simp [dig_nat]
theorem tcells_len (n i : Nat) (h : i ≤ 10) : (tcells n i).length = 10 := by unfold tcells; rw [List.length_append, List.length_replicate, List.length_map, tenR_len]; omega
/- zname: Cut of a numbered name; alive. Conditions: the text has at most 2000000 bytes; the library's variable holds a number. -/
set_option linter.unusedVariables false
set_option linter.unusedSimpArgs false

theorem val_bound (l : Nm) (h : ∀ c ∈ l, c.toNat ≤ 57) : val l < 10 ^ l.length := by
  have H : ∀ (r : Nm), (∀ c ∈ r, c.toNat ≤ 57) → val r.reverse < 10 ^ r.length := by
    intro r
    induction r with
    | nil => intro _; simp [val]
    | cons c r ih =>
      intro h
      rw [List.reverse_cons, val_snoc, List.length_cons, Nat.pow_succ]
      have h1 := ih (fun d hd => h d (by simp [hd]))
      have h2 := h c (by simp)
      omega
  have := H l.reverse (fun c hc => h c (by simpa using hc))
  simpa using this
theorem ret_three {fn : Func} {R : Ending → World → Prop} {act : Act} {w : World} {x y z : Value} {t u v : Nat} (h : fn.results = #[.tmp t, .tmp u, .tmp v]) (hd : act.defers = []) (ht : act.tmps.getD t undef = x) (hu : act.tmps.getD u undef = y) (hv : act.tmps.getD v undef = z)
    (hR : R (.returned (.tuple #[x, y, z])) w) : bodyPost Tryd.prog fn R .ret act w := by
  refine bodyPost_ret (v := .tuple #[x, y, z]) ?_ hd hR
  rw [Array.getD_eq_getD_getElem?] at ht hu hv
  simp [results, h, ht, hu, hv, go_sem]
/- zname: the document's ten, Number; the walks of ZnameJoins, ZnameNumbers. Conditions: the texts have at most 1048576 bytes; the library's variable holds a number. -/
set_option linter.unusedVariables false
set_option linter.unusedSimpArgs false

theorem rten_any (m : Nat) (w : World) (h3 : m ≤ 9999999999) : Calls Tryd.prog 73 #[.int .i64 m] w fun e w' => e = .returned (.string ⟨(tenR 10 m).toArray⟩) ∧ Below w.heap.size w w' := by
  have HX1 : Hid (Box (w.alloc (.cells #[.int .u8 0, .int .u8 0, .int .u8 0, .int .u8 0, .int .u8 0, .int .u8 0, .int .u8 0, .int .u8 0, .int .u8 0, .int .u8 0] 5)) w.heap.size 5 (tcells m 0).toArray) := (Box.new w 5 (tcells m 0).toArray)
  have A1 := Lib.hid ((Below.refl w.heap.size w).alloc (Nat.le_refl _) (.cells #[.int .u8 0, .int .u8 0, .int .u8 0, .int .u8 0, .int .u8 0, .int .u8 0, .int .u8 0, .int .u8 0, .int .u8 0, .int .u8 0] 5))
  have hmk : (Instr.makeSlice 68 (.int .i64 10) (.int .i64 10)).run Tryd.prog w = .ok (.slice (some ⟨w.heap.size, 0, none⟩) 10 10) (w.alloc (.cells #[.int .u8 0, .int .u8 0, .int .u8 0, .int .u8 0, .int .u8 0, .int .u8 0, .int .u8 0, .int .u8 0, .int .u8 0, .int .u8 0] 5)) := by kernel_rfl
  go_enter Tryd.func73, Tryd.ntmps73
  go_wp2_with fail
  generalize w.alloc (.cells #[.int .u8 0, .int .u8 0, .int .u8 0, .int .u8 0, .int .u8 0, .int .u8 0, .int .u8 0, .int .u8 0, .int .u8 0, .int .u8 0] 5) = w2 at HX1 A1 ⊢
  clear hmk
  go_loopw [0, 4] (fun q i wr => ∃ k : Nat, k ≤ 10 ∧ i = .int .i64 (9 - (k : Int)) ∧ q = .int .i64 ((m / 10 ^ k : Nat) : Int) ∧ Box wr w.heap.size 5 (tcells m k).toArray ∧ Below w.heap.size w wr) (fun _ i _ => (intOf i + 1).toNat)
  case atStart => exact ⟨0, by omega, rfl, by simp, HX1.out, A1.out⟩
  case round =>
    obtain ⟨k, hk, rfl, rfl, hx, hbel⟩ := hrel
    have HX := Lib.hid hx
    have HB := Lib.hid hbel
    obtain ⟨q, hq⟩ : ∃ q, q = m / 10 ^ k := ⟨_, rfl⟩
    have hqm : q ≤ 9999999999 := by rw [hq]; exact Nat.le_trans (Nat.div_le_self _ _) h3
    rw [← hq]
    have HQ := Lib.hid hq
    have hfz : ∀ j, wr.frozen? ⟨w.heap.size, j, none⟩ = false := fun j => hx.frozen j
    clear hx hbel hq
    by_cases hlt : k < 10
    · obtain ⟨v, hv⟩ : ∃ v, (tcells m k)[9 - k]? = some v := ⟨_, List.getElem?_eq_getElem (by rw [tcells_len m k (by omega)]; omega)⟩
      have d0 : wr.cell? ⟨w.heap.size, 9 - k, none⟩ = some v := by rw [HX.out.cell]; simpa using hv
      have f0 := hfz (9 - k)
      have hi0 : (0 : Int) ≤ 9 - (k : Int) := by omega
      have hi1 : 9 - (k : Int) < 10 := by omega
      have hin : (9 - (k : Int)).toNat = 9 - k := by omega
      clear hv hfz
      go_wp2_with fail
      go_roundw
      case rel =>
        refine ⟨k + 1, by omega, by go_num, ?_, ?_, HB.out.setCell (p := ⟨w.heap.size, 9 - k, none⟩) (Nat.le_refl _) _⟩
        · rw [Nat.pow_succ, ← Nat.div_div_eq_div_mul, ← HQ.out, Int.natCast_ediv]; rfl
        · have h2 := HX.out.set (9 - k) (.int .u8 (48 + (q : Int) % 10))
          have h3 := tcells_next m k hlt
          rw [← HQ.out] at h3
          have h4 : ((48 + q % 10 : Nat) : Int) = 48 + (q : Int) % 10 := by omega
          rw [h4] at h3
          rw [← h3, ← List.setIfInBounds_toArray]
          exact h2
      case measure => simp [intOf]; omega
    · obtain rfl : k = 10 := by omega
      obtain ⟨T, hT⟩ : ∃ T, T = tenR 10 m := ⟨_, rfl⟩
      have hcv := run_convert_bytes_back (P := Tryd.prog) wr 68 9 5 ⟨w.heap.size, 0, none⟩ 10 T Tryd.underlying68 Tryd.underlying5 Tryd.underlying9 (fun j hj => by
        rw [Addr.add_lit, HX.out.cell]
        simp only [Nat.zero_add]
        unfold tcells
        rw [← hT]
        simp [hj])
      rw [show T.length = 10 by rw [hT, tenR_len]] at hcv
      have HT := Lib.hid hT
      clear hfz hT
      go_wp2_with fail
      go_ret
      exact ⟨congrArg (fun l : Nm => Ending.returned (Value.string ⟨l.toArray⟩)) HT.out, HB.out⟩
set_option maxHeartbeats 1000000 in
theorem rnumber_any (s : ByteArray) (n : Int) (w : World) (hs : s.size ≤ 2000000) : Calls Tryd.prog 60 #[.string s, .int .i64 n] w (Numbered w s.data.toList n) := by
  have C1 := rvalid_any s w (by omega)
  by_cases h0 : s.data.toList = [47]
  · have HNO := Lib.hid (show numOk s.data.toList n = false by unfold numOk; rw [h0]; rfl)
    have h0' : (s.toList == [47]) = true := by rw [Lib.toList_data, h0]; rfl
    clear h0 C1
    go_enter Tryd.func60, Tryd.ntmps60
    go_wp2_with fail
    exact ret_two rfl rfl (x := .string ⟨#[]⟩) (y := .bool false) rfl rfl (Numbered.no HNO.out (Below.refl _ _))
  have h0' : (s.toList == [47]) = false := by rw [Lib.toList_data]; simpa using h0
  cases hv : validZ s.data.toList
  · have HNO := Lib.hid (show numOk s.data.toList n = false by unfold numOk; rw [hv]; simp)
    rw [hv] at C1
    have C1 := Lib.hid C1
    clear h0 hv
    go_enter Tryd.func60, Tryd.ntmps60
    go_wp2_with fail
    refine C1.out.mono ?_
    rintro e w1 ⟨rfl, b1⟩
    have B1 := Lib.hid b1
    clear b1
    go_wp2_with fail
    exact ret_two rfl rfl (x := .string ⟨#[]⟩) (y := .bool false) rfl rfl (Numbered.no HNO.out B1.out)
  rw [hv] at C1
  have C1 := Lib.hid C1
  by_cases h2 : 0 ≤ n
  rotate_left
  · have HNO := Lib.hid (show numOk s.data.toList n = false by unfold numOk; simp [h2])
    have h2' : n < 0 := by omega
    clear h0 hv h2
    go_enter Tryd.func60, Tryd.ntmps60
    go_wp2_with fail
    refine C1.out.mono ?_
    rintro e w1 ⟨rfl, b1⟩
    have B1 := Lib.hid b1
    clear b1
    go_wp2_with fail
    exact ret_two rfl rfl (x := .string ⟨#[]⟩) (y := .bool false) rfl rfl (Numbered.no HNO.out B1.out)
  by_cases h3 : n ≤ 9999999999
  rotate_left
  · have HNO := Lib.hid (show numOk s.data.toList n = false by unfold numOk; simp [h3])
    have h3' : 9999999999 < n := by omega
    have h2' : decide (n < 0) = false := by rw [decide_eq_false_iff_not]; omega
    clear h0 hv h3
    go_enter Tryd.func60, Tryd.ntmps60
    go_wp2_with fail
    refine C1.out.mono ?_
    rintro e w1 ⟨rfl, b1⟩
    have B1 := Lib.hid b1
    clear b1
    go_wp2_with fail
    exact ret_two rfl rfl (x := .string ⟨#[]⟩) (y := .bool false) rfl rfl (Numbered.no HNO.out B1.out)
  · obtain ⟨m, rfl⟩ := Int.eq_ofNat_of_zero_le h2
    have hok : numOk s.data.toList m = validZ (s.data.toList ++ tenR 10 m) := by
      unfold numOk
      rw [hv, show (s.data.toList == [47]) = false by simpa using h0, Int.toNat_natCast]
      simp [h3]
    have h2d : decide ((m : Int) < 0) = false := by rw [decide_eq_false_iff_not]; omega
    have h3d : decide ((9999999999 : Int) < (m : Int)) = false := by rw [decide_eq_false_iff_not]; omega
    have C2 := fun w1 => rten_any m w1 (by omega)
    obtain ⟨T, hT⟩ : ∃ T, T = tenR 10 m := ⟨_, rfl⟩
    rw [← hT] at C2 hok
    have hTl : T.length ≤ 10 := by rw [hT, tenR_len]; exact Nat.le_refl _
    have hPD : (s ++ (⟨T.toArray⟩ : ByteArray)).data.toList = s.data.toList ++ T := by rw [cat_mk]
    have hPS : (s ++ (⟨T.toArray⟩ : ByteArray)).size ≤ 4194304 := by
      rw [Lib.size_eq, hPD, List.length_append, ← Lib.size_eq]; omega
    have C4 := fun w1 => rvalid_any (s ++ (⟨T.toArray⟩ : ByteArray)) w1 hPS
    rw [hPD, ← hok] at C4
    have HPD := Lib.hid (show (s ++ (⟨T.toArray⟩ : ByteArray)).data.toList = s.data.toList ++ tenR 10 ((m : Int)).toNat by rw [hPD, hT]; rfl)
    have C2 := Lib.hid C2
    cases hz : numOk s.data.toList m
    · rw [hz] at C4
      have C4 := Lib.hid C4
      have HNO := Lib.hid hz
      clear hz hok hPD hPS hT hv h0 h2 h3
      go_enter Tryd.func60, Tryd.ntmps60
      go_wp2_with fail
      refine C1.out.mono ?_
      rintro e w1 ⟨rfl, b1⟩
      have B1 := Lib.hid b1
      clear b1
      go_wp2_with fail
      refine (C2.out _).mono ?_
      rintro e w2 ⟨rfl, b2⟩
      have B2 := Lib.hid (B1.out.trans (b2.mono B1.out.size))
      clear b2
      go_wp2_with fail
      refine (C4.out _).mono ?_
      rintro e w3 ⟨rfl, b3⟩
      have B3 := Lib.hid (B2.out.trans (b3.mono B2.out.size))
      clear b3
      go_wp2_with fail
      exact ret_two rfl rfl (x := .string ⟨#[]⟩) (y := .bool false) rfl rfl (Numbered.no HNO.out B3.out)
    · rw [hz] at C4
      have C4 := Lib.hid C4
      have HY := Lib.hid hz
      clear hz hok hPD hPS hT hv h0 h2 h3
      go_enter Tryd.func60, Tryd.ntmps60
      go_wp2_with fail
      refine C1.out.mono ?_
      rintro e w1 ⟨rfl, b1⟩
      have B1 := Lib.hid b1
      clear b1
      go_wp2_with fail
      refine (C2.out _).mono ?_
      rintro e w2 ⟨rfl, b2⟩
      have B2 := Lib.hid (B1.out.trans (b2.mono B1.out.size))
      clear b2
      go_wp2_with fail
      refine (C4.out _).mono ?_
      rintro e w3 ⟨rfl, b3⟩
      have B3 := Lib.hid (B2.out.trans (b3.mono B2.out.size))
      clear b3
      go_wp2_with fail
      refine (C2.out _).mono ?_
      rintro e w4 ⟨rfl, b4⟩
      have B4 := Lib.hid (B3.out.trans (b4.mono B3.out.size))
      clear b4
      go_wp2_with fail
      exact ret_two rfl rfl (x := .string (s ++ ⟨T.toArray⟩)) (y := .bool true) rfl rfl (Numbered.yes HY.out HPD.out B4.out)
end Go.Proofs.YtbkjhogfpcmcbaaDoor
