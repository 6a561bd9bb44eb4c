/- chart: names and mounts that come in; ChartWins' walk. Conditions: the bulk of what comes in is at most 1048576; the library's variable holds a number. -/
import Derived.Test.YtbkjhogfpcmcbaaDoorKs
import Derived.Test.YtbkjhogfpcmcbaaDoorKk
import Derived.Test.YtbkjhogfpcmcbaaDoorOpenB
namespace Go.Proofs.YtbkjhogfpcmcbaaDoor
open Go Go.RowKit Go.ChangeShapes Go.WideShapes Go.ChangeAt Go.Deep Zn
set_option linter.unusedVariables false
set_option linter.unusedSimpArgs false
variable {w w' : World}
set_option maxRecDepth 100000
theorem k9 : Tryd.prog.cellsOf 9 = 1 := by kernel_rfl
theorem k3 : Tryd.prog.cellsOf 3 = 1 := by kernel_rfl
theorem k45 : Tryd.prog.cellsOf 45 = 2 := by kernel_rfl
theorem shape9 {H : Type} {enc : TypeId × Value → H} {W : World} {n : Nat} {r : List Value} {y : DataW H × List MemPlace} (h : DataW.trod enc Tryd.prog W 0 (fun _ => true) true n 9 r = some y) (hr : r.length = 1) : ∃ s : ByteArray, r = [.string s] ∧ s.size ≤ Rows.uptoBulk y.1 := by
  match r, hr with
  | [c0], _ =>
    obtain ⟨s, hs, hy, _⟩ := DataW.trod_string Tryd.underlying9 h
    simp at hs
    refine ⟨s, by rw [hs], ?_⟩
    exact str_part (s := s) (Nat.le_of_eq (by rw [hy]))
theorem shape45 {H : Type} {enc : TypeId × Value → H} {W : World} {n : Nat} {r : List Value} {y : DataW H × List MemPlace} (h : DataW.trod enc Tryd.prog W 0 (fun _ => true) true n 45 r = some y) (hr : r.length = 2) : ∃ x : Mt, r = mc x ∧ x.p.size ≤ Rows.uptoBulk y.1 := by
  obtain ⟨xs, n', _, hx, _, hlen, hg⟩ := DataW.trod_struct Tryd.underlying45 h
  match r, hr with
  | [c0, c1], _ =>
    match xs, hlen with
    | [y0, y1], _ =>
      have h0 := hg 0 _ rfl
      have h1 := hg 1 _ rfl
      simp [k3, k9] at h0 h1
      obtain ⟨s, hs, hy, _⟩ := DataW.trod_string Tryd.underlying9 h0
      obtain ⟨a, ha, _⟩ := DataW.trod_int Tryd.underlying3 h1
      simp at ha hs
      refine ⟨⟨s, a⟩, by rw [ha, hs]; rfl, ?_⟩
      have hp := agg_part (show y0 ∈ [y0, y1] by simp)
      rw [hx]
      exact str_part (s := s) (Nat.le_trans (Nat.le_of_eq (by rw [hy])) hp)
theorem rows_str {B : Nat} {l : List (List Value)} (h : ∀ r ∈ l, ∃ s : ByteArray, r = [.string s] ∧ s.size ≤ B) : ∃ L : List Nm, l = L.map (fun x => [Value.string ⟨x.toArray⟩]) ∧ ∀ x ∈ L, x.length ≤ B := by
  induction l with
  | nil => exact ⟨[], rfl, by simp⟩
  | cons r l ih =>
    obtain ⟨s, rfl, hp⟩ := h r (by simp)
    obtain ⟨L, rfl, hL⟩ := ih fun r hr => h r (by simp [hr])
    refine ⟨s.data.toList :: L, rfl, fun z hz => (List.mem_cons.1 hz).elim (fun e => ?_) (hL z)⟩
    rw [e, ← Lib.size_eq]; exact hp
theorem rows_mt {B : Nat} {l : List (List Value)} (h : ∀ r ∈ l, ∃ x : Mt, r = mc x ∧ x.p.size ≤ B) : ∃ L : List Mt, l = L.map mc ∧ ∀ x ∈ L, x.p.size ≤ B := by
  induction l with
  | nil => exact ⟨[], rfl, by simp⟩
  | cons r l ih =>
    obtain ⟨s, rfl, hp⟩ := h r (by simp)
    obtain ⟨L, rfl, hL⟩ := ih fun r hr => h r (by simp [hr])
    exact ⟨s :: L, rfl, fun z hz => (List.mem_cons.1 hz).elim (fun e => e ▸ hp) (hL z)⟩
theorem open_kids {H : Type} {enc : TypeId × Value → H} {W : World} {base : Nat} {v : Value} {d : DataW H} {p : List MemPlace} (hv : Value.okWide Tryd.prog W .any base 39 v) (h : DataW.Trod enc Tryd.prog W 0 (fun _ => true) true 39 v d p) (hd : Rows.uptoBulk d ≤ 1048576) :
    ∃ a cap L, v = .slice a (List.length L) cap ∧ Strs W a L ∧ (∀ x ∈ L, x.length ≤ 1048576) ∧ L.length ≤ cap ∧ cap ≤ maxLen := by
  obtain ⟨a, len, cap, rfl⟩ := okWide_slice Tryd.underlying39 hv
  obtain ⟨rows, hr, h1, h2, hs⟩ := open_rows_b Tryd.underlying39 k9 (by omega) h
  obtain ⟨L, rfl, ho⟩ := rows_str (B := 1048576) fun r hrm => by
    obtain ⟨hl, n, y, hy, hb⟩ := hs r hrm
    obtain ⟨o, ho, hz⟩ := shape9 hy hl
    exact ⟨o, ho, by omega⟩
  have hlen : L.length = len := by have := hr.1; rwa [List.length_map] at this
  subst hlen
  refine ⟨a, cap, L, rfl, ?_, ho, h1, h2⟩
  rcases hr.2 with h0 | ⟨b, off, e, hb, hc⟩
  · left; exact List.length_eq_zero_iff.1 h0
  · right
    refine ⟨b, off, e, hb, fun k x hx => ?_⟩
    have := hc k _ (show (L.map (fun x => [Value.string ⟨x.toArray⟩]))[k]? = some [Value.string ⟨x.toArray⟩] by rw [List.getElem?_map, hx]; rfl) 0 _ rfl
    rwa [Nat.mul_one, Nat.add_zero] at this
theorem open_mounts {H : Type} {enc : TypeId × Value → H} {W : World} {base : Nat} {v : Value} {d : DataW H} {p : List MemPlace} (hv : Value.okWide Tryd.prog W .any base 26 v) (h : DataW.Trod enc Tryd.prog W 0 (fun _ => true) true 26 v d p) (hd : Rows.uptoBulk d ≤ 1048576) :
    ∃ a len cap ms, v = .slice a len cap ∧ MsAt W a len ms ∧ (∀ x ∈ ms, x.p.size ≤ 1048576) ∧ len ≤ cap ∧ cap ≤ maxLen := by
  obtain ⟨a, len, cap, rfl⟩ := okWide_slice Tryd.underlying26 hv
  obtain ⟨rows, hr, h1, h2, hs⟩ := open_rows_b Tryd.underlying26 k45 (by omega) h
  obtain ⟨L, rfl, ho⟩ := rows_mt (B := 1048576) fun r hrm => by
    obtain ⟨hl, n, y, hy, hb⟩ := hs r hrm
    obtain ⟨o, ho, hz⟩ := shape45 hy hl
    exact ⟨o, ho, by omega⟩
  exact ⟨a, len, cap, L, rfl, hr, ho, h1, h2⟩
set_option maxHeartbeats 4000000 in
theorem chartWins_walk {H : Type} {enc : TypeId × Value → H} {p : List MemPlace} {base : Nat} (W : World) (hm : Mx W) (v0 : Value) (d0 : DataW H) (hv0 : Value.okWide Tryd.prog W .any base 39 v0) (h0 : DataW.Trod enc Tryd.prog W 0 (fun _ => true) true 39 v0 d0 p) (hd0 : Rows.uptoBulk d0 ≤ 1048576)
    (s : ByteArray) (_ws : s.size ≤ maxLen) (hs : s.size ≤ 1048576) :
    Calls Tryd.prog 6 #[v0, .string s] W fun e W' => e = .returned (.bool true) ∧ Below W.heap.size W W' := by
  obtain ⟨ad, cap, L, rfl, hS, hx, hlc, hcm⟩ := open_kids hv0 h0 hd0
  clear hv0 h0 hd0 _ws
  have AL := Lib.hid (fun w1 (h : Mx w1) => alive_any w1 h)
  by_cases h200 : 200 < L.length
  · have h200i : decide ((200 : Int) < (L.length : Int)) = true := by rw [decide_eq_true_iff]; omega
    have A1 := Lib.hid (AL.out W hm)
    clear hS hx hm h200
    go_enter Tryd.func6, Tryd.ntmps6
    go_wp2_with fail
    refine A1.out.mono ?_
    rintro e w1 ⟨rfl, b1⟩
    have HB := Lib.hid b1
    clear b1 A1
    go_wp2_with fail
    go_ret
    exact ⟨rfl, HB.out⟩
  have h200i : decide ((200 : Int) < (L.length : Int)) = false := by rw [decide_eq_false_iff_not]; omega
  have hl200 : L.length ≤ 200 := by omega
  have C1 := winner_any ad cap L W hS (fun x h => Nat.le_trans (hx x h) (by omega)) hm (by omega)
  unfold Won at C1
  have C2 := fun w1 (h : Strs w1 ad L) => rwinner_any ad cap L w1 h (fun x h => Nat.le_trans (hx x h) (by omega)) (by omega)
  unfold RWon at C2
  have C4 := fun w1 => rcut_any ((⟨#[47]⟩ : ByteArray) ++ s) w1 (by rw [ByteArray.size_append]; show 1 + _ ≤ _; omega)
  unfold Cutted at C4
  have hsd : ((⟨#[47]⟩ : ByteArray) ++ s).data.toList = 47 :: s.data.toList := by rw [ByteArray.data_append, Array.toList_append]; rfl
  rw [hsd] at C4
  obtain ⟨M, hM⟩ : ∃ M, M = cutN (47 :: s.data.toList) := ⟨_, rfl⟩
  rw [← hM] at C4
  have HM2 := Lib.hid hM
  generalize cutB (47 :: s.data.toList) = cs at C4
  generalize (⟨(cutP (47 :: s.data.toList)).toArray⟩ : ByteArray) = cp at C4
  have C4 := Lib.hid C4
  have HXA := Lib.hid (show ∀ x ∈ L ++ [s.data.toList], x.length ≤ 4000000 from fun x h => (List.mem_append.1 h).elim (fun h => Nat.le_trans (hx x h) (by omega)) (fun h => by
    simp at h; rw [h, Array.length_toList]; exact Nat.le_trans hs (by omega)))
  have HS := Lib.hid hS
  have HM := Lib.hid hm
  obtain ⟨i0, hi, hz0, hz1, hz2⟩ := info_parts row9
  have HI := Lib.hid hi
  have HZZ := Lib.hid hz0
  have hss : ¬ 9223372036854775807 < 1 + s.size := by omega
  by_cases hb : (winL L).b = []
  · rw [win_none hb] at C2
    rw [hb, win_k0 hb] at C1
    have C1 := Lib.hid C1
    have C2 := Lib.hid C2
    have C3 := fun w1 => rcut_any ((⟨#[47]⟩ : ByteArray) ++ ⟨#[]⟩) w1 (by rw [ByteArray.size_append]; show 1 + 0 ≤ _; omega)
    unfold Cutted at C3
    generalize cutB ((⟨#[47]⟩ : ByteArray) ++ ⟨#[]⟩).data.toList = cs1 at C3
    generalize cutN ((⟨#[47]⟩ : ByteArray) ++ ⟨#[]⟩).data.toList = cn1 at C3
    generalize (⟨(cutP ((⟨#[47]⟩ : ByteArray) ++ ⟨#[]⟩).data.toList).toArray⟩ : ByteArray) = cp1 at C3
    have C3 := Lib.hid C3
    clear hb hM hsd hS hx hm hi hz0
    go_enter Tryd.func6, Tryd.ntmps6
    go_wp2_with fail
    refine C1.out.mono ?_
    rintro e w1 ⟨rfl, b1⟩
    have HB1 := Lib.hid b1
    have HS1 := Lib.hid (HS.out.below b1)
    have HM1 := Lib.hid (HM.out.below b1)
    clear b1 C1
    go_wp2_with fail
    refine (C2.out w1 HS1.out).mono ?_
    rintro e w2 ⟨rfl, b2⟩
    have HB2 := Lib.hid (HB1.out.trans (b2.mono HB1.out.size))
    have HS2 := Lib.hid (HS1.out.below b2)
    have HM2x := Lib.hid (HM1.out.below b2)
    clear b2 C2 HS1 HM1
    go_wp2_with fail
    refine (C3.out w2).mono ?_
    rintro e w3 ⟨rfl, b3⟩
    have HB3 := Lib.hid (HB2.out.trans (b3.mono HB2.out.size))
    have HS3 := Lib.hid (HS2.out.below b3)
    have HM3 := Lib.hid (HM2x.out.below b3)
    clear b3 C3 HS2 HM2x
    go_wp2_with fail
    refine (C4.out w3).mono ?_
    rintro e w5 ⟨rfl, b4⟩
    have HB5 := Lib.hid (HB3.out.trans (b4.mono HB3.out.size))
    have HS5 := Lib.hid (HS3.out.below b4)
    have HM5 := Lib.hid (HM3.out.below b4)
    clear b4 C4 HS3 HM3
    have HO := Lib.hid (World.ownsRow_lit (base := w5.heap.size) (e := 9) (size := 1) w5 #[] 0 (Nat.le_refl _) (by decide) rfl)
    have HSB := Lib.hid (src_strs (HS5.out.below ((Below.refl w5.heap.size w5).alloc (Nat.le_refl _) (.cells #[] 9))))
    have HSZ := Lib.hid (show w5.heap.size ≤ (w5.alloc (.cells #[] 9)).heap.size by simp)
    have BB := Lib.hid ((Below.refl w5.heap.size w5).alloc (Nat.le_refl _) (.cells #[] 9))
    go_wp2_with (first | (at_builtin; refine wpList_append_at rfl (.tmp 64) (.tmp 65) 39 rfl w5.heap.size 9 i0 _ 1 16 Tryd.underlying39 HI.out HZZ.out hz1 hz2 rfl (by decide) _ _ _ rfl HO.out _ _ _ _ rfl HSB.out (by unfold maxLen; omega) (by omega) HSZ.out ?_; intro v6 w6 own6 g6 at6; obtain ⟨ad6, c6, rfl, hc6⟩ := own_shape own6; simp only [Nat.zero_add, List.nil_append] at own6; have HR6 := Lib.hid (own6.alloc (.cells #[.string s] 9)); have HSX := Lib.hid (src9 w6 s); have B6 := Lib.hid (BB.out.grown g6 HSZ.out (own_ge HO.out)); have HSZ6 := Lib.hid (show w5.heap.size ≤ (w6.alloc (.cells #[.string s] 9)).heap.size by have := B6.out.size; simp; omega); have B6A := Lib.hid (B6.out.alloc B6.out.size (.cells #[.string s] 9)); clear own6 g6 at6 HSB HO HSZ BB B6) | (at_builtin; refine wpList_append_at rfl (.tmp 66) (.tmp 68) 39 rfl w5.heap.size 9 i0 _ 1 16 Tryd.underlying39 HI.out HZZ.out hz1 hz2 rfl (by decide) _ _ _ rfl HR6.out _ _ _ _ rfl HSX.out (by unfold maxLen; omega) (by omega) HSZ6.out ?_; intro v7 w7 own7 g7 at7; obtain ⟨ad7, c7, rfl, hc7⟩ := own_shape own7))
    have B7 := Lib.hid (B6A.out.grown g7 HSZ6.out (own_ge HR6.out))
    have HM7 := Lib.hid (HM5.out.below B7.out)
    have HB7 := Lib.hid (HB5.out.trans (B7.out.mono HB5.out.size))
    have hsn : scells L ++ [Value.string s] = scells (L ++ [s.data.toList]) := by rw [scells_snoc]
    rw [hsn] at own7
    have hln : (L ++ [s.data.toList]).length = L.length + 1 := by simp
    have own7' : w7.ownsRow w5.heap.size 9 1 (.slice ad7 (L.length + 1) c7) (L ++ [s.data.toList]).length (scells (L ++ [s.data.toList])) := by rw [hln]; exact own7
    have C5 := winner_any ad7 c7 (L ++ [s.data.toList]) w7 (strs_own own7') HXA.out HM7.out (by rw [hln]; omega)
    rw [hln] at C5
    unfold Won at C5
    obtain ⟨U, hU⟩ : ∃ U : ByteArray, U = ⟨(winL (L ++ [s.data.toList])).b.toArray⟩ := ⟨_, rfl⟩
    rw [← hU] at C5
    have HU := Lib.hid hU
    generalize (winL (L ++ [s.data.toList])).k = uk at C5
    generalize (!(winL (L ++ [s.data.toList])).b.isEmpty) = ub at C5
    have C5 := Lib.hid C5
    clear own7 own7' hsn hln g7 at7 hU B7
    go_wp2_with fail
    refine C5.out.mono ?_
    rintro e w8 ⟨rfl, b8⟩
    have HB8 := Lib.hid (HB7.out.trans (b8.mono HB7.out.size))
    have HM8 := Lib.hid (HM7.out.below b8)
    clear b8 C5
    go_wp2_with fail
    refine (AL.out w8 HM8.out).mono ?_
    rintro e w9 ⟨rfl, b9⟩
    have HB9 := Lib.hid (HB8.out.trans (b9.mono HB8.out.size))
    clear b9
    go_wp2_with fail
    go_ret
    exact ⟨rfl, HB9.out⟩
  · rw [win_some hb] at C2
    simp only at C2
    rw [← win_k hb, show (winL L).b.isEmpty = false from isEmpty_no hb] at *
    obtain ⟨B, hBB⟩ : ∃ B : ByteArray, B = ⟨(winL L).b.toArray⟩ := ⟨_, rfl⟩
    have hBd : B.data.toList = (winL L).b := by rw [hBB]
    have hBs : B.size ≤ 1048576 := by rw [Lib.size_eq, hBd]; exact hx _ ((winInv L).yes hb).2.1
    rw [← hBB] at C1 C2
    have HBB := Lib.hid hBB
    have HNE := Lib.hid hb
    generalize (winL L).k = K at C1 C2
    have C1 := Lib.hid C1
    have C2 := Lib.hid C2
    have C3 := fun w1 => rcut_any ((⟨#[47]⟩ : ByteArray) ++ B) w1 (by rw [ByteArray.size_append]; show 1 + _ ≤ _; omega)
    unfold Cutted at C3
    rw [show ((⟨#[47]⟩ : ByteArray) ++ B).data.toList = 47 :: (winL L).b by rw [ByteArray.data_append, Array.toList_append, hBd]; rfl, win_cut hb] at C3
    obtain ⟨N, hN⟩ : ∃ N, N = cutN (47 :: (winL L).b) := ⟨_, rfl⟩
    rw [← hN] at C3
    have HN2 := Lib.hid hN
    generalize (⟨(cutP (47 :: (winL L).b)).toArray⟩ : ByteArray) = cp1 at C3
    have C3 := Lib.hid C3
    have hss2 : ¬ 9223372036854775807 < 1 + B.size := by omega
    clear hb hM hN hsd hS hx hm hi hz0 hBB hBd hBs
    go_enter Tryd.func6, Tryd.ntmps6
    go_wp2_with fail
    refine C1.out.mono ?_
    rintro e w1 ⟨rfl, b1⟩
    have HB1 := Lib.hid b1
    have HS1 := Lib.hid (HS.out.below b1)
    have HM1 := Lib.hid (HM.out.below b1)
    clear b1 C1
    go_wp2_with fail
    refine (C2.out w1 HS1.out).mono ?_
    rintro e w2 ⟨rfl, b2⟩
    have HB2 := Lib.hid (HB1.out.trans (b2.mono HB1.out.size))
    have HS2 := Lib.hid (HS1.out.below b2)
    have HM2x := Lib.hid (HM1.out.below b2)
    clear b2 C2 HS1 HM1
    go_wp2_with fail
    refine (C3.out w2).mono ?_
    rintro e w3 ⟨rfl, b3⟩
    have HB3 := Lib.hid (HB2.out.trans (b3.mono HB2.out.size))
    have HS3 := Lib.hid (HS2.out.below b3)
    have HM3 := Lib.hid (HM2x.out.below b3)
    clear b3 C3 HS2 HM2x
    go_wp2_with fail
    refine (C4.out w3).mono ?_
    rintro e w5 ⟨rfl, b4⟩
    have HB5 := Lib.hid (HB3.out.trans (b4.mono HB3.out.size))
    have HS5 := Lib.hid (HS3.out.below b4)
    have HM5 := Lib.hid (HM3.out.below b4)
    clear b4 C4 HS3 HM3
    have HO := Lib.hid (World.ownsRow_lit (base := w5.heap.size) (e := 9) (size := 1) w5 #[] 0 (Nat.le_refl _) (by decide) rfl)
    have HSB := Lib.hid (src_strs (HS5.out.below ((Below.refl w5.heap.size w5).alloc (Nat.le_refl _) (.cells #[] 9))))
    have HSZ := Lib.hid (show w5.heap.size ≤ (w5.alloc (.cells #[] 9)).heap.size by simp)
    have BB := Lib.hid ((Below.refl w5.heap.size w5).alloc (Nat.le_refl _) (.cells #[] 9))
    go_wp2_with (first | (at_builtin; refine wpList_append_at rfl (.tmp 64) (.tmp 65) 39 rfl w5.heap.size 9 i0 _ 1 16 Tryd.underlying39 HI.out HZZ.out hz1 hz2 rfl (by decide) _ _ _ rfl HO.out _ _ _ _ rfl HSB.out (by unfold maxLen; omega) (by omega) HSZ.out ?_; intro v6 w6 own6 g6 at6; obtain ⟨ad6, c6, rfl, hc6⟩ := own_shape own6; simp only [Nat.zero_add, List.nil_append] at own6; have HR6 := Lib.hid (own6.alloc (.cells #[.string s] 9)); have HSX := Lib.hid (src9 w6 s); have B6 := Lib.hid (BB.out.grown g6 HSZ.out (own_ge HO.out)); have HSZ6 := Lib.hid (show w5.heap.size ≤ (w6.alloc (.cells #[.string s] 9)).heap.size by have := B6.out.size; simp; omega); have B6A := Lib.hid (B6.out.alloc B6.out.size (.cells #[.string s] 9)); clear own6 g6 at6 HSB HO HSZ BB B6) | (at_builtin; refine wpList_append_at rfl (.tmp 66) (.tmp 68) 39 rfl w5.heap.size 9 i0 _ 1 16 Tryd.underlying39 HI.out HZZ.out hz1 hz2 rfl (by decide) _ _ _ rfl HR6.out _ _ _ _ rfl HSX.out (by unfold maxLen; omega) (by omega) HSZ6.out ?_; intro v7 w7 own7 g7 at7; obtain ⟨ad7, c7, rfl, hc7⟩ := own_shape own7))
    have B7 := Lib.hid (B6A.out.grown g7 HSZ6.out (own_ge HR6.out))
    have HM7 := Lib.hid (HM5.out.below B7.out)
    have HB7 := Lib.hid (HB5.out.trans (B7.out.mono HB5.out.size))
    have hsn : scells L ++ [Value.string s] = scells (L ++ [s.data.toList]) := by rw [scells_snoc]
    rw [hsn] at own7
    have hln : (L ++ [s.data.toList]).length = L.length + 1 := by simp
    have own7' : w7.ownsRow w5.heap.size 9 1 (.slice ad7 (L.length + 1) c7) (L ++ [s.data.toList]).length (scells (L ++ [s.data.toList])) := by rw [hln]; exact own7
    have C5 := winner_any ad7 c7 (L ++ [s.data.toList]) w7 (strs_own own7') HXA.out HM7.out (by rw [hln]; omega)
    rw [hln] at C5
    unfold Won at C5
    obtain ⟨U, hU⟩ : ∃ U : ByteArray, U = ⟨(winL (L ++ [s.data.toList])).b.toArray⟩ := ⟨_, rfl⟩
    rw [← hU] at C5
    have HU := Lib.hid hU
    generalize (winL (L ++ [s.data.toList])).k = uk at C5
    generalize (!(winL (L ++ [s.data.toList])).b.isEmpty) = ub at C5
    have C5 := Lib.hid C5
    clear own7 own7' hsn hln g7 at7 hU B7
    go_wp2_with fail
    refine C5.out.mono ?_
    rintro e w8 ⟨rfl, b8⟩
    have HB8 := Lib.hid (HB7.out.trans (b8.mono HB7.out.size))
    have HM8 := Lib.hid (HM7.out.below b8)
    clear b8 C5
    go_wp2_with fail
    refine (AL.out w8 HM8.out).mono ?_
    rintro e w9 ⟨rfl, b9⟩
    have HB9 := Lib.hid (HB8.out.trans (b9.mono HB8.out.size))
    clear b9
    cases hcs : cs with
    | false =>
      subst hcs
      go_wp2_with fail
      go_ret
      exact ⟨rfl, HB9.out⟩
    | true =>
      subst hcs
      by_cases hmn : M ≤ N
      · go_wp2_with fail
        go_ret
        exact ⟨rfl, HB9.out⟩
      · have hUB : U = B := by rw [HU.out, HBB.out, win_later HNE.out (by rw [← HM2.out, ← HN2.out]; exact hmn)]
        subst hUB
        go_wp2_with fail
        go_ret
        exact ⟨by simp, HB9.out⟩
end Go.Proofs.YtbkjhogfpcmcbaaDoor
