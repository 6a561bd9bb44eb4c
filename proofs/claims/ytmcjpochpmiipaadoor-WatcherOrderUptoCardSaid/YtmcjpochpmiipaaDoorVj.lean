/- watcher: the document's Add. Conditions: the row is the call's own, it rises. -/
import Derived.Test.YtmcjpochpmiipaaDoorVi
import Derived.Test.YtmcjpochpmiipaaDoorZj
namespace Go.Proofs.YtmcjpochpmiipaaDoor
open Go Go.RowKit Zn
set_option linter.unusedVariables false
set_option linter.unusedSimpArgs false
variable {w w' : World} {base n : Nat} {v : Value} {L : List Wt}

theorem eqw_end {p x : Wt} {q : Bool} (hq : decide (p = x) = q) (w' : World) : (if p.1 = x.1 then if p.2.1.toList = x.2.1.toList then if p.2.2 = x.2.2 then Result.ok (Next.value (Value.bool true)) w' else Result.ok (Next.value (Value.bool false)) w' else Result.ok (Next.value (Value.bool false)) w' else Result.ok (Next.value (Value.bool false)) w') = Result.ok (Next.value (Value.bool q)) w' := by
  subst hq
  obtain ⟨a, s, k⟩ := p
  obtain ⟨b, t, m⟩ := x
  simp only [Prod.mk.injEq]
  by_cases h1 : a = b
  · by_cases h2 : s = t
    · by_cases h3 : k = m
      · simp [h1, h2, h3]
      · simp [h1, h2, h3]
    · have h4 : ¬ s.toList = t.toList := fun e => h2 (str_eq e)
      simp [h1, h2, h4]
  · simp [h1]
theorem row29 : (Tryd.prog.info? 29).map (fun i => (i.zero, i.size, i.bytes)) = some (some (.agg #[.int .i64 0, .string ⟨#[]⟩, .bool false]), 3, 32) := by kernel_rfl
theorem wbox_src {T xb : Nat} {x : Wt} (hx : Box w xb T #[.int .i64 x.1, .string x.2.1, .bool x.2.2]) : Src w (some ⟨xb, 0, none⟩) 1 3 (tc x) := by
  refine ⟨rfl, by simp [tc, Value.oneCell'], .inr ⟨_, rfl, fun j u hj => ?_⟩⟩
  rw [Addr.add_lit, Nat.zero_add, hx.cell j]
  simpa [tc] using hj
theorem kOf_lt {L : List Wt} (hs : Rises L) {x p : Wt} {k : Nat} (hp : L[k]? = some p) : Lt p x ↔ k < kOf L x := by
  have key : ∀ m, m ≤ L.length → (∀ i q, i < m → L[i]? = some q → Lt q x) → (∀ q, L[m]? = some q → ¬ Lt q x) → kOf L x = m := by
    intro m hm h0 h1
    refine kOf_is L x m hm h0 (fun j q hj hq hl => ?_)
    rcases Nat.lt_or_ge m j with h | h
    · obtain ⟨hjl, hjq⟩ := List.getElem?_eq_some_iff.1 hq
      have hml : m < L.length := by omega
      have h2 := List.pairwise_iff_getElem.1 hs m j hml hjl h
      rw [hjq] at h2
      exact h1 _ (List.getElem?_eq_getElem hml) (h2.trans hl)
    · obtain rfl : j = m := by omega
      exact h1 q hq hl
  obtain ⟨hkl, hkp⟩ := List.getElem?_eq_some_iff.1 hp
  have hall : ∀ m, m ≤ L.length → (∀ i q, i < m → L[i]? = some q → Lt q x) ∨ ∃ j, j < m ∧ kOf L x = j := by
    intro m
    induction m with
    | zero => intro _; exact .inl (fun i q h => by omega)
    | succ m ih =>
      intro hm
      rcases ih (by omega) with h | ⟨j, hj, e⟩
      · by_cases hl : Lt (L[m]'(by omega)) x
        · refine .inl (fun i q hi hq => ?_)
          rcases Nat.lt_or_ge i m with h3 | h3
          · exact h i q h3 hq
          · obtain rfl : i = m := by omega
            rw [List.getElem?_eq_getElem (by omega)] at hq
            exact Option.some.inj hq ▸ hl
        · refine .inr ⟨m, by omega, key m (by omega) h (fun q hq => ?_)⟩
          rw [List.getElem?_eq_getElem (by omega)] at hq
          exact Option.some.inj hq ▸ hl
      · exact .inr ⟨j, by omega, e⟩
  constructor
  · intro hl
    rcases hall (k + 1) (by omega) with h | ⟨j, hj, e⟩
    · rcases Nat.lt_or_ge k (kOf L x) with h2 | h2
      · exact h2
      · exfalso
        unfold kOf at h2
        have hc : (L.take (k + 1)).countP (fun p => decide (Lt p x)) = k + 1 := by
          rw [List.countP_eq_length.2, List.length_take, Nat.min_eq_left (by omega)]
          intro q hq
          obtain ⟨i, hi, hq⟩ := List.getElem_of_mem hq
          rw [List.length_take] at hi
          rw [List.getElem_take] at hq
          exact decide_eq_true (h i q (by omega) (by rw [List.getElem?_eq_getElem (by omega), hq]))
        have : (L.take (k + 1)).countP (fun p => decide (Lt p x)) ≤ L.countP (fun p => decide (Lt p x)) := (List.take_sublist (k + 1) L).countP_le
        omega
    · exfalso
      have hjl : j < L.length := by omega
      have hnj : ¬ Lt (L[j]) x := by
        intro hj2
        have h3 : kOf L x ≤ j := by omega
        have hc : (L.take (j + 1)).countP (fun p => decide (Lt p x)) = j + 1 := by
          rw [List.countP_eq_length.2, List.length_take, Nat.min_eq_left (by omega)]
          intro q hq
          obtain ⟨i, hi, hq⟩ := List.getElem_of_mem hq
          rw [List.length_take] at hi
          rw [List.getElem_take] at hq
          rcases Nat.lt_or_ge i j with h4 | h4
          · have h5 := List.pairwise_iff_getElem.1 hs i j (by omega) hjl h4
            rw [hq] at h5
            exact decide_eq_true (h5.trans hj2)
          · obtain rfl : i = j := by omega
            rw [← hq]
            exact decide_eq_true hj2
        have : (L.take (j + 1)).countP (fun p => decide (Lt p x)) ≤ L.countP (fun p => decide (Lt p x)) := (List.take_sublist (j + 1) L).countP_le
        unfold kOf at h3
        omega
      rcases Nat.lt_or_ge j k with h4 | h4
      · have h5 := List.pairwise_iff_getElem.1 hs j k hjl hkl h4
        rw [hkp] at h5
        exact hnj (h5.trans hl)
      · obtain rfl : j = k := by omega
        rw [hkp] at hnj
        exact hnj hl
  · intro hlt
    by_cases hl : Lt p x
    · exact hl
    · exfalso
      have hc : (L.drop k).countP (fun p => decide (Lt p x)) = 0 := by
        rw [List.countP_eq_zero]
        intro q hq
        obtain ⟨i, hi, hq⟩ := List.getElem_of_mem hq
        rw [List.length_drop] at hi
        rw [List.getElem_drop] at hq
        simp only [decide_eq_true_eq]
        intro hq2
        rcases Nat.eq_zero_or_pos i with h0 | h0
        · subst h0
          simp only [Nat.add_zero] at hq
          rw [hkp] at hq
          exact hl (hq ▸ hq2)
        · have h5 := List.pairwise_iff_getElem.1 hs k (k + i) hkl (by omega) (by omega)
          rw [hkp, hq] at h5
          exact hl (h5.trans hq2)
      have e : L = L.take k ++ L.drop k := (List.take_append_drop k L).symm
      have h2 : (L.take k).countP (fun p => decide (Lt p x)) ≤ (L.take k).length := List.countP_le_length
      rw [List.length_take] at h2
      have h3 : kOf L x = (L.take k).countP (fun p => decide (Lt p x)) + (L.drop k).countP (fun p => decide (Lt p x)) := by
        unfold kOf
        rw [← List.countP_append, List.take_append_drop]
      omega
/-- what stands in out behind k rounds. -/
def outA (L : List Wt) (x : Wt) (k : Nat) : List Wt := if kOf L x < k then L.take (kOf L x) ++ x :: (L.take k).drop (kOf L x) else L.take k
theorem outA_zero (L : List Wt) (x : Wt) : outA L x 0 = [] := by simp [outA]
theorem outA_end (L : List Wt) (x : Wt) : (if kOf L x < L.length then outA L x L.length else outA L x L.length ++ [x]) = insL L x := by
  have h := kOf_le L x
  unfold outA insL
  by_cases h1 : kOf L x < L.length
  · simp [h1]
  · have e : kOf L x = L.length := by omega
    simp [e]
theorem outA_next {L : List Wt} {x p : Wt} {k : Nat} (hp : L[k]? = some p) :
    outA L x (k + 1) = if k < kOf L x ∨ kOf L x < k then outA L x k ++ [p] else outA L x k ++ [x] ++ [p] := by
  obtain ⟨hkl, hkp⟩ := List.getElem?_eq_some_iff.1 hp
  unfold outA
  rcases Nat.lt_trichotomy k (kOf L x) with h | h | h
  · have a1 : ¬ kOf L x < k + 1 := by omega
    have a2 : ¬ kOf L x < k := by omega
    simp only [a1, a2, h, true_or, if_true, if_false]
    rw [List.take_add_one, hp]; rfl
  · have a1 : kOf L x < k + 1 := by omega
    have a2 : ¬ kOf L x < k := by omega
    have a3 : ¬ k < kOf L x := by omega
    simp only [a1, a2, a3, or_self, if_true, if_false]
    have : (L.take k).drop k = [] := List.drop_eq_nil_of_le (by rw [List.length_take]; omega)
    rw [List.take_add_one, hp, ← h, List.drop_append_of_le_length (by rw [List.length_take]; omega), this]
    simp
  · have a1 : kOf L x < k + 1 := by omega
    simp only [a1, h, or_true, if_true]
    rw [List.take_add_one, hp, List.drop_append_of_le_length (by rw [List.length_take]; omega)]
    simp
theorem outA_len {L : List Wt} {x : Wt} {k : Nat} (hk : k ≤ L.length) : (outA L x k).length = k + if kOf L x < k then 1 else 0 := by
  unfold outA
  split
  · rw [List.length_append, List.length_cons, List.length_drop, List.length_take, List.length_take]; omega
  · rw [List.length_take]; omega
theorem own_lower {b b' e size k : Nat} {vv : Value} {xs : List Value} (h : w.ownsRow b e size vv k xs) (hb : b' ≤ b) : w.ownsRow b' e size vv k xs :=
  ⟨h.1, h.2.imp id (fun ⟨g, cap, cur, h1, h2, h3⟩ => ⟨g, cap, cur, h1, Nat.le_trans hb h2, h3⟩)⟩
set_option maxRecDepth 4000 in
set_option maxHeartbeats 2000000 in
theorem radd_any {wi : World} (x : Wt) (ad : Option Addr) (c : Nat) (h : wi.ownsRow base 29 3 (.slice ad L.length c) L.length (cellsOf L)) (hb : base ≤ wi.heap.size) (hs : Rises L) (hl : L.length ≤ 1000) (hz : x.2.1.size ≤ 4194304) :
    Calls Tryd.prog 11 #[.slice ad L.length c, tv x] wi fun e w' => ∃ v', e = .returned (.tuple #[v', .bool (addB L x)]) ∧ w'.ownsRow base 29 3 v' (addL L x).length (cellsOf (addL L x)) ∧ Below wi.heap.size wi w' := by
  have HX := Lib.hid (Box.new wi 29 #[.int .i64 x.1, .string x.2.1, .bool x.2.2])
  have B0 := Lib.hid ((Below.refl wi.heap.size wi).alloc (Nat.le_refl _) (.cells #[.int .i64 x.1, .string x.2.1, .bool x.2.2] 29))
  have HO0 := Lib.hid (own_below h ((Below.refl wi.heap.size wi).alloc (Nat.le_refl _) (.cells #[.int .i64 x.1, .string x.2.1, .bool x.2.2] 29)) (Nat.le_refl _))
  have HS := Lib.hid hs
  have hsz : wi.heap.size < (wi.alloc (.cells #[.int .i64 x.1, .string x.2.1, .bool x.2.2] 29)).heap.size := by simp
  unfold tv
  clear h hs
  by_cases h1 : x.1 < 1
  · have HNO := Lib.hid (show okW x = false by simp [okW]; intro h; omega)
    go_enter Tryd.func11, Tryd.ntmps11
    go_wp2
    exact ret_tt (x := .slice ad L.length c) (y := .bool false) Tryd.results11 rfl rfl rfl ⟨_, by rw [addB, HNO.out]; rfl, by rw [addL_bad HNO.out]; exact HO0.out, B0.out⟩
  · have hd : decide (x.1 < 1) = false := decide_eq_false h1
    obtain ⟨V, hV⟩ : ∃ V, V = validZ x.2.1.data.toList := ⟨_, rfl⟩
    have C1 := Lib.hid (rvalid_any x.2.1 (wi.alloc (.cells #[.int .i64 x.1, .string x.2.1, .bool x.2.2] 29)) hz)
    have HOK := Lib.hid (show okW x = V by simp [okW, hV]; intro _; omega)
    rw [← hV] at C1
    clear hV
    go_enter Tryd.func11, Tryd.ntmps11
    go_wp2_with fail
    refine C1.out.mono ?_
    rintro e w2 ⟨rfl, b2⟩
    have HX2 := Lib.hid (HX.out.below b2 HX.out.lt)
    have B2 := Lib.hid (B0.out.trans (b2.mono B0.out.size))
    have HO2 := Lib.hid (own_below HO0.out b2 (Nat.le_refl _))
    have hsz2 := Nat.lt_of_lt_of_le hsz b2.size
    clear C1 b2
    cases V
    · go_wp2
      exact ret_tt (x := .slice ad L.length c) (y := .bool false) Tryd.results11 rfl rfl rfl ⟨_, by rw [addB, HOK.out]; rfl, by rw [addL_bad HOK.out]; exact HO2.out, B2.out⟩
    obtain ⟨i0, hi, hz0, hz1, hz2⟩ := info_parts row29
    have HI := Lib.hid hi
    have HZZ := Lib.hid hz0
    clear hi hz0
    go_wp2
    go_loopw [6, 7, 8] (fun o d i wr => ∃ k : Nat, k ≤ L.length ∧ i = .int .i64 k ∧ d = .bool (decide (kOf L x < k)) ∧ (∀ j q, j < k → L[j]? = some q → q ≠ x) ∧ wr.ownsRow w2.heap.size 29 3 o (outA L x k).length (cellsOf (outA L x k)) ∧ Below w2.heap.size w2 wr) (fun _ _ i _ => L.length - (intOf i).toNat)
    case atStart => exact ⟨0, Nat.zero_le _, rfl, rfl, fun j q hj => by omega, by rw [outA_zero]; exact World.ownsRow_nil _ _ _ _, Below.refl _ _⟩
    case round =>
      obtain ⟨k, hk, rfl, rfl, hno, hown, hbel⟩ := hrel
      have HNO := Lib.hid hno
      have HB := Lib.hid hbel
      have HW := Lib.hid hown
      have HOr := Lib.hid (own_below HO2.out hbel (Nat.le_refl _))
      have HXr := Lib.hid (HX2.out.below hbel HX2.out.lt)
      clear hno hbel hown
      obtain ⟨ado, co, rfl, _⟩ := own_shape HW.out
      have hol : (outA L x k).length ≤ k + 1 := by rw [outA_len hk]; split <;> omega
      by_cases hlt : k < L.length
      · obtain ⟨p, hp⟩ : ∃ p, L[k]? = some p := ⟨_, List.getElem?_eq_getElem hlt⟩
        obtain ⟨g, cap, he, hg, _⟩ := own_cells HOr.out k p hp
        obtain ⟨rfl, rfl⟩ : ad = some ⟨g, 0, none⟩ ∧ c = cap := by simpa using he
        have HP := Lib.hid hp
        have HNX2 := Lib.hid (outA_next (x := x) hp)
        have HKL := Lib.hid (kOf_lt (x := x) HS.out hp)
        obtain ⟨q, hq⟩ : ∃ q, decide (p = x) = q := ⟨_, rfl⟩
        have HQ := Lib.hid hq
        clear he hp hg hq
        go_wp2
        refine wp_region_below (w0 := wr) (B := wr.heap.size) (by kernel_rfl) (by kernel_rfl) (Below.refl _ _) ?_
        go_big_quiet_want; go_big_quiet_op; go_big_quiet_on
        go_big_quiet_want; go_big_quiet_op; go_big_quiet_on
        go_big_quiet_want; apply quiet_value; (· (intro w hw; go_simp; try rfl)); simp only [Act.put, List.setIfInBounds_toArray, List.set_cons_succ, List.set_cons_zero]; go_big_quiet_on
        go_big_quiet_want; apply quiet_value; (· (intro w hw; obtain ⟨c0, c1, c2⟩ := own_at (own_below HOr.out hw (Nat.le_refl _)) k p HP.out; go_simp; try rfl)); simp only [Act.put, List.setIfInBounds_toArray, List.set_cons_succ, List.set_cons_zero]; go_big_quiet_on
        go_big_quiet_want; apply quiet_value; (· (intro w hw; have hx := HXr.out.below hw HXr.out.lt; have x0 : w.cell? ⟨wi.heap.size, 0, none⟩ = some (.int .i64 x.1) := hx.cell 0; have x1 : w.cell? ⟨wi.heap.size, 1, none⟩ = some (.string x.2.1) := hx.cell 1; have x2 : w.cell? ⟨wi.heap.size, 2, none⟩ = some (.bool x.2.2) := hx.cell 2; go_simp; try rfl)); simp only [Act.put, List.setIfInBounds_toArray, List.set_cons_succ, List.set_cons_zero]; go_big_quiet_on
        go_big_quiet_want; apply quiet_value (v := .bool q); (· (intro w hw; go_simp; exact eqw_end HQ.out w)); simp only [Act.put, List.setIfInBounds_toArray, List.set_cons_succ, List.set_cons_zero]; go_big_quiet_on
        refine wpQuiet_nil ?_
        intro w3 b3
        have HB3 := Lib.hid (HB.out.trans (b3.mono HB.out.size))
        have HO3 := Lib.hid (own_below HOr.out b3 (Nat.le_refl _))
        have HX3 := Lib.hid (HXr.out.below b3 HXr.out.lt)
        have HW3 := Lib.hid (own_below HW.out b3 (Nat.le_refl _))
        clear b3
        cases q
        rotate_left
        · have hin : isIn L x = true := (isIn_iff L x).2 (by have := of_decide_eq_true HQ.out; exact this ▸ List.mem_of_getElem? HP.out)
          have HIN := Lib.hid hin
          clear hin
          go_wp2
          exact ret_tt (x := .slice (some ⟨g, 0, none⟩) L.length c) (y := .bool true) Tryd.results11 rfl rfl rfl ⟨_, by rw [addB, HOK.out, HIN.out]; rfl, by rw [addL_in HIN.out]; exact HO3.out, B2.out.trans (HB3.out.mono B2.out.size)⟩
        have HNE := Lib.hid (of_decide_eq_false HQ.out)
        have HNN := Lib.hid (show ∀ j q, j < k + 1 → L[j]? = some q → q ≠ x from fun j r hj hr => by
          rcases Nat.lt_or_ge j k with h | h
          · exact HNO.out j r h hr
          · obtain rfl : j = k := by omega
            rw [HP.out] at hr; obtain rfl := Option.some.inj hr; exact HNE.out)
        by_cases hdn : kOf L x < k
        · have hdd : decide (kOf L x < k) = true := decide_eq_true hdn
          have hdd2 : decide (kOf L x < k + 1) = true := decide_eq_true (by omega)
          have HNXT := Lib.hid (show outA L x (k + 1) = outA L x k ++ [p] by rw [HNX2.out, if_pos (.inr hdn)])
          go_wp2
          refine wp_region_below (w0 := w3) (B := w3.heap.size) (by kernel_rfl) (by kernel_rfl) (Below.refl _ _) ?_
          go_big_quiet_want; go_big_quiet_op; go_big_quiet_on
          go_big_quiet_want; apply quiet_value (v := .bool false); (· (intro w hw; go_simp; try rfl)); simp only [Act.put, List.setIfInBounds_toArray, List.set_cons_succ, List.set_cons_zero]; go_big_quiet_on
          go_big_quiet_want; go_big_quiet_op; go_big_quiet_on
          go_big_quiet_skip
          go_big_quiet_skip
          go_big_quiet_skip
          go_big_quiet_skip
          go_big_quiet_skip
          go_big_quiet_skip
          go_big_quiet_want; apply quiet_value (v := .bool false); (· (intro w hw; go_simp; try rfl)); simp only [Act.put, List.setIfInBounds_toArray, List.set_cons_succ, List.set_cons_zero]; go_big_quiet_on
          refine wpQuiet_nil ?_
          intro w4 b4
          have HB4 := Lib.hid (HB3.out.trans (b4.mono HB3.out.size))
          have HO4 := Lib.hid (own_below HO3.out b4 (Nat.le_refl _))
          have HX4 := Lib.hid (HX3.out.below b4 HX3.out.lt)
          have HW4 := Lib.hid (own_below HW3.out b4 (Nat.le_refl _))
          clear b4
          obtain ⟨d0, d1, d2⟩ := own_at HO4.out k p HP.out
          have HWA := Lib.hid (own_stays HW4.out (w' := w4.alloc (.cells #[.int .i64 p.1, .string p.2.1, .bool p.2.2] 29)) (fun i hi => Below.heap_alloc w4 _ i (own_lt HW4.out i hi)))
          have HSRC := Lib.hid (wbox_src (Box.new w4 29 #[.int .i64 p.1, .string p.2.1, .bool p.2.2]))
          have HBA := Lib.hid (HB4.out.alloc HB4.out.size (.cells #[.int .i64 p.1, .string p.2.1, .bool p.2.2] 29))
          go_wp2_with (at_builtin; refine wpList_append_at rfl (.tmp 46) (.tmp 51) 25 rfl w2.heap.size 29 i0 _ 3 32 Tryd.underlying25 HI.out HZZ.out hz1 hz2 rfl (by decide) _ _ _ rfl HWA.out _ _ _ _ rfl HSRC.out (by unfold maxLen; omega) (by omega) HBA.out.size ?_)
          intro v6 w6 own6 g6 at6
          have HW6 := Lib.hid own6
          have HB6 := Lib.hid (HBA.out.grown g6 HBA.out.size (fun i hi => own_ge HWA.out i hi))
          clear own6 g6 at6 d0 d1 d2
          go_wp2
          go_roundw
          case rel => exact ⟨k + 1, by omega, by go_num, by rw [hdd2], HNN.out, by rw [HNXT.out, cells_snoc, List.length_append]; exact HW6.out, HB6.out⟩
          case measure => simp [intOf]; omega
        · have hdd : decide (kOf L x < k) = false := decide_eq_false hdn
          by_cases hb4 : k < kOf L x
          · have hbf : decide (Lt x p) = false := decide_eq_false (fun h => (HKL.out.2 hb4).asymm h)
            have hdd2 : decide (kOf L x < k + 1) = false := decide_eq_false (by omega)
            have HNXT := Lib.hid (show outA L x (k + 1) = outA L x k ++ [p] by rw [HNX2.out, if_pos (.inl hb4)])
            go_wp2
            refine wp_region_below (w0 := w3) (B := w3.heap.size) (by kernel_rfl) (by kernel_rfl) (Below.refl _ _) ?_
            go_big_quiet_want; go_big_quiet_op; go_big_quiet_on
            go_big_quiet_want; apply quiet_value (v := .bool true); (· (intro w hw; go_simp; try rfl)); simp only [Act.put, List.setIfInBounds_toArray, List.set_cons_succ, List.set_cons_zero]; go_big_quiet_on
            go_big_quiet_want; go_big_quiet_op; go_big_quiet_on
            go_big_quiet_want; apply quiet_value; (· (intro w hw; have hx := HX3.out.below hw HX3.out.lt; have x0 : w.cell? ⟨wi.heap.size, 0, none⟩ = some (.int .i64 x.1) := hx.cell 0; have x1 : w.cell? ⟨wi.heap.size, 1, none⟩ = some (.string x.2.1) := hx.cell 1; have x2 : w.cell? ⟨wi.heap.size, 2, none⟩ = some (.bool x.2.2) := hx.cell 2; go_simp; try rfl)); simp only [Act.put, List.setIfInBounds_toArray, List.set_cons_succ, List.set_cons_zero]; go_big_quiet_on
            go_big_quiet_want; go_big_quiet_op; go_big_quiet_on
            go_big_quiet_want; go_big_quiet_op; go_big_quiet_on
            go_big_quiet_want; apply quiet_value; (· (intro w hw; go_simp; try rfl)); simp only [Act.put, List.setIfInBounds_toArray, List.set_cons_succ, List.set_cons_zero]; go_big_quiet_on
            go_big_quiet_want; apply quiet_value; (· (intro w hw; obtain ⟨c0, c1, c2⟩ := own_at (own_below HO3.out hw (Nat.le_refl _)) k p HP.out; go_simp; try rfl)); simp only [Act.put, List.setIfInBounds_toArray, List.set_cons_succ, List.set_cons_zero]; go_big_quiet_on
            go_big_quiet_want; apply quiet_call (f := 22) (v := .bool false); (· (intro w hw; go_simp; try rfl)); (· (intro w hw; rw [← hbf]; exact in_below (before_any x p w) hw (Nat.le_refl _))); simp only [Act.put, List.setIfInBounds_toArray, List.set_cons_succ, List.set_cons_zero]; go_big_quiet_on
            go_big_quiet_want; apply quiet_value (v := .bool false); (· (intro w hw; go_simp; try rfl)); simp only [Act.put, List.setIfInBounds_toArray, List.set_cons_succ, List.set_cons_zero]; go_big_quiet_on
            refine wpQuiet_nil ?_
            intro w4 b4
            have HB4 := Lib.hid (HB3.out.trans (b4.mono HB3.out.size))
            have HO4 := Lib.hid (own_below HO3.out b4 (Nat.le_refl _))
            have HX4 := Lib.hid (HX3.out.below b4 HX3.out.lt)
            have HW4 := Lib.hid (own_below HW3.out b4 (Nat.le_refl _))
            clear b4
            obtain ⟨d0, d1, d2⟩ := own_at HO4.out k p HP.out
            have HWA := Lib.hid (own_stays HW4.out (w' := w4.alloc (.cells #[.int .i64 p.1, .string p.2.1, .bool p.2.2] 29)) (fun i hi => Below.heap_alloc w4 _ i (own_lt HW4.out i hi)))
            have HSRC := Lib.hid (wbox_src (Box.new w4 29 #[.int .i64 p.1, .string p.2.1, .bool p.2.2]))
            have HBA := Lib.hid (HB4.out.alloc HB4.out.size (.cells #[.int .i64 p.1, .string p.2.1, .bool p.2.2] 29))
            go_wp2_with (at_builtin; refine wpList_append_at rfl (.tmp 46) (.tmp 51) 25 rfl w2.heap.size 29 i0 _ 3 32 Tryd.underlying25 HI.out HZZ.out hz1 hz2 rfl (by decide) _ _ _ rfl HWA.out _ _ _ _ rfl HSRC.out (by unfold maxLen; omega) (by omega) HBA.out.size ?_)
            intro v6 w6 own6 g6 at6
            have HW6 := Lib.hid own6
            have HB6 := Lib.hid (HBA.out.grown g6 HBA.out.size (fun i hi => own_ge HWA.out i hi))
            clear own6 g6 at6 d0 d1 d2
            go_wp2
            go_roundw
            case rel => exact ⟨k + 1, by omega, by go_num, by rw [hdd2], HNN.out, by rw [HNXT.out, cells_snoc, List.length_append]; exact HW6.out, HB6.out⟩
            case measure => simp [intOf]; omega
          · have hke : kOf L x = k := by omega
            have hbt : decide (Lt x p) = true := decide_eq_true (by
              rcases Lt.total x p with h | h | h
              · exact h
              · exact absurd h.symm HNE.out
              · have := HKL.out.1 h; omega)
            have hdd2 : decide (kOf L x < k + 1) = true := decide_eq_true (by omega)
            have HNXT := Lib.hid (show outA L x (k + 1) = outA L x k ++ [x] ++ [p] by rw [HNX2.out, if_neg (by omega)])
            go_wp2
            refine wp_region_below (w0 := w3) (B := w3.heap.size) (by kernel_rfl) (by kernel_rfl) (Below.refl _ _) ?_
            go_big_quiet_want; go_big_quiet_op; go_big_quiet_on
            go_big_quiet_want; apply quiet_value (v := .bool true); (· (intro w hw; go_simp; try rfl)); simp only [Act.put, List.setIfInBounds_toArray, List.set_cons_succ, List.set_cons_zero]; go_big_quiet_on
            go_big_quiet_want; go_big_quiet_op; go_big_quiet_on
            go_big_quiet_want; apply quiet_value; (· (intro w hw; have hx := HX3.out.below hw HX3.out.lt; have x0 : w.cell? ⟨wi.heap.size, 0, none⟩ = some (.int .i64 x.1) := hx.cell 0; have x1 : w.cell? ⟨wi.heap.size, 1, none⟩ = some (.string x.2.1) := hx.cell 1; have x2 : w.cell? ⟨wi.heap.size, 2, none⟩ = some (.bool x.2.2) := hx.cell 2; go_simp; try rfl)); simp only [Act.put, List.setIfInBounds_toArray, List.set_cons_succ, List.set_cons_zero]; go_big_quiet_on
            go_big_quiet_want; go_big_quiet_op; go_big_quiet_on
            go_big_quiet_want; go_big_quiet_op; go_big_quiet_on
            go_big_quiet_want; apply quiet_value; (· (intro w hw; go_simp; try rfl)); simp only [Act.put, List.setIfInBounds_toArray, List.set_cons_succ, List.set_cons_zero]; go_big_quiet_on
            go_big_quiet_want; apply quiet_value; (· (intro w hw; obtain ⟨c0, c1, c2⟩ := own_at (own_below HO3.out hw (Nat.le_refl _)) k p HP.out; go_simp; try rfl)); simp only [Act.put, List.setIfInBounds_toArray, List.set_cons_succ, List.set_cons_zero]; go_big_quiet_on
            go_big_quiet_want; apply quiet_call (f := 22) (v := .bool true); (· (intro w hw; go_simp; try rfl)); (· (intro w hw; rw [← hbt]; exact in_below (before_any x p w) hw (Nat.le_refl _))); simp only [Act.put, List.setIfInBounds_toArray, List.set_cons_succ, List.set_cons_zero]; go_big_quiet_on
            go_big_quiet_want; apply quiet_value (v := .bool true); (· (intro w hw; go_simp; try rfl)); simp only [Act.put, List.setIfInBounds_toArray, List.set_cons_succ, List.set_cons_zero]; go_big_quiet_on
            refine wpQuiet_nil ?_
            intro w4 b4
            have HB4 := Lib.hid (HB3.out.trans (b4.mono HB3.out.size))
            have HO4 := Lib.hid (own_below HO3.out b4 (Nat.le_refl _))
            have HX4 := Lib.hid (HX3.out.below b4 HX3.out.lt)
            have HW4 := Lib.hid (own_below HW3.out b4 (Nat.le_refl _))
            clear b4
            have y0 : w4.cell? ⟨wi.heap.size, 0, none⟩ = some (.int .i64 x.1) := HX4.out.cell 0
            have y1 : w4.cell? ⟨wi.heap.size, 1, none⟩ = some (.string x.2.1) := HX4.out.cell 1
            have y2 : w4.cell? ⟨wi.heap.size, 2, none⟩ = some (.bool x.2.2) := HX4.out.cell 2
            have HWA5 := Lib.hid (own_stays HW4.out (w' := w4.alloc (.cells #[.int .i64 x.1, .string x.2.1, .bool x.2.2] 29)) (fun i hi => Below.heap_alloc w4 _ i (own_lt HW4.out i hi)))
            have HOA5 := Lib.hid (own_stays HO4.out (w' := w4.alloc (.cells #[.int .i64 x.1, .string x.2.1, .bool x.2.2] 29)) (fun i hi => Below.heap_alloc w4 _ i (own_lt HO4.out i hi)))
            have HSRC5 := Lib.hid (wbox_src (Box.new w4 29 #[.int .i64 x.1, .string x.2.1, .bool x.2.2]))
            have HBA5 := Lib.hid (HB4.out.alloc HB4.out.size (.cells #[.int .i64 x.1, .string x.2.1, .bool x.2.2] 29))
            go_wp2_with (at_builtin; refine wpList_append_at rfl (.tmp 42) (.tmp 44) 25 rfl w2.heap.size 29 i0 _ 3 32 Tryd.underlying25 HI.out HZZ.out hz1 hz2 rfl (by decide) _ _ _ rfl HWA5.out _ _ _ _ rfl HSRC5.out (by unfold maxLen; omega) (by omega) HBA5.out.size ?_)
            intro v5 w5 own5 g5 at5
            obtain ⟨OL1, hOL1⟩ : ∃ M, M = outA L x k ++ [x] := ⟨_, rfl⟩
            rw [show (outA L x k).length + 1 = OL1.length by rw [hOL1]; simp, ← cells_snoc, ← hOL1] at own5
            have HNXT := Lib.hid (show outA L x (k + 1) = OL1 ++ [p] by rw [HNXT.out, hOL1])
            obtain ⟨ad5, c5, rfl, _⟩ := own_shape own5
            have hol5 : OL1.length ≤ k + 2 := by rw [hOL1, List.length_append, List.length_cons, List.length_nil]; omega
            clear hOL1
            have HW5 := Lib.hid own5
            have HB5 := Lib.hid (HBA5.out.grown g5 HBA5.out.size (own_ge HWA5.out))
            have HO5 := Lib.hid (own_stays HO2.out (w' := w5) (fun i hi => HB5.out.block i (own_lt HO2.out i hi)))
            clear own5 g5 at5 y0 y1 y2
            obtain ⟨d0, d1, d2⟩ := own_at HO5.out k p HP.out
            have HWA := Lib.hid (own_stays HW5.out (w' := w5.alloc (.cells #[.int .i64 p.1, .string p.2.1, .bool p.2.2] 29)) (fun i hi => Below.heap_alloc w5 _ i (own_lt HW5.out i hi)))
            have HSRC := Lib.hid (wbox_src (Box.new w5 29 #[.int .i64 p.1, .string p.2.1, .bool p.2.2]))
            have HBA := Lib.hid (HB5.out.alloc HB5.out.size (.cells #[.int .i64 p.1, .string p.2.1, .bool p.2.2] 29))
            go_wp2_with (at_builtin; refine wpList_append_at rfl (.tmp 46) (.tmp 51) 25 rfl w2.heap.size 29 i0 _ 3 32 Tryd.underlying25 HI.out HZZ.out hz1 hz2 rfl (by decide) _ _ _ rfl HWA.out _ _ _ _ rfl HSRC.out (by unfold maxLen; omega) (by omega) HBA.out.size ?_)
            intro v6 w6 own6 g6 at6
            have HW6 := Lib.hid own6
            have HB6 := Lib.hid (HBA.out.grown g6 HBA.out.size (fun i hi => own_ge HWA.out i hi))
            clear own6 g6 at6 d0 d1 d2
            go_wp2
            go_roundw
            case rel => exact ⟨k + 1, by omega, by go_num, by rw [hdd2], HNN.out, by rw [HNXT.out, cells_snoc, List.length_append (bs := [p])]; exact HW6.out, HB6.out⟩
            case measure => simp [intOf]; omega
      · obtain rfl : k = L.length := by omega
        have hin : isIn L x = false := by
          rw [← Bool.not_eq_true, isIn_iff]
          intro hm
          obtain ⟨j, hj, hjx⟩ := List.getElem_of_mem hm
          exact HNO.out j x hj (by rw [List.getElem?_eq_getElem hj, hjx]) rfl
        have HIN := Lib.hid hin
        clear hin
        have HEND := Lib.hid (outA_end L x)
        by_cases hf : L.length < 500
        · have h5 : ¬ (500 : Int) ≤ (L.length : Int) := by omega
          have HADD := Lib.hid (show addL L x = insL L x by simp [addL, HOK.out, HIN.out, hf])
          have HADB := Lib.hid (show addB L x = true by simp [addB, HOK.out, hf])
          by_cases hdn : kOf L x < L.length
          · have hdd : decide (kOf L x < L.length) = true := decide_eq_true hdn
            go_wp2
            exact ret_tt (x := .slice ado (outA L x L.length).length co) (y := .bool true) Tryd.results11 rfl rfl rfl ⟨_, by rw [HADB.out], by rw [HADD.out, ← HEND.out, if_pos hdn]; exact own_lower HW.out (Nat.le_trans hb B2.out.size), B2.out.trans (HB.out.mono B2.out.size)⟩
          · have hdd : decide (kOf L x < L.length) = false := decide_eq_false hdn
            have y0 : wr.cell? ⟨wi.heap.size, 0, none⟩ = some (.int .i64 x.1) := HXr.out.cell 0
            have y1 : wr.cell? ⟨wi.heap.size, 1, none⟩ = some (.string x.2.1) := HXr.out.cell 1
            have y2 : wr.cell? ⟨wi.heap.size, 2, none⟩ = some (.bool x.2.2) := HXr.out.cell 2
            have HWA5 := Lib.hid (own_stays HW.out (w' := wr.alloc (.cells #[.int .i64 x.1, .string x.2.1, .bool x.2.2] 29)) (fun i hi => Below.heap_alloc wr _ i (own_lt HW.out i hi)))
            have HSRC5 := Lib.hid (wbox_src (Box.new wr 29 #[.int .i64 x.1, .string x.2.1, .bool x.2.2]))
            have HBA5 := Lib.hid (HB.out.alloc HB.out.size (.cells #[.int .i64 x.1, .string x.2.1, .bool x.2.2] 29))
            go_wp2_with (at_builtin; refine wpList_append_at rfl (.tmp 55) (.tmp 57) 25 rfl w2.heap.size 29 i0 _ 3 32 Tryd.underlying25 HI.out HZZ.out hz1 hz2 rfl (by decide) _ _ _ rfl HWA5.out _ _ _ _ rfl HSRC5.out (by unfold maxLen; omega) (by omega) HBA5.out.size ?_)
            intro v5 w5 own5 g5 at5
            have HW5 := Lib.hid own5
            have HB5 := Lib.hid (HBA5.out.grown g5 HBA5.out.size (own_ge HWA5.out))
            have HO5 := Lib.hid (own_stays HO2.out (w' := w5) (fun i hi => HB5.out.block i (own_lt HO2.out i hi)))
            clear own5 g5 at5 y0 y1 y2
            go_wp2
            exact ret_tt (x := v5) (y := .bool true) Tryd.results11 rfl rfl rfl ⟨_, by rw [HADB.out], by rw [HADD.out, ← HEND.out, if_neg hdn, cells_snoc, List.length_append]; exact own_lower HW5.out (Nat.le_trans hb B2.out.size), B2.out.trans (HB5.out.mono B2.out.size)⟩
        · have h5 : (500 : Int) ≤ (L.length : Int) := by omega
          have HADB := Lib.hid (show addB L x = false by simp [addB, HIN.out]; intro _; omega)
          by_cases hdn : kOf L x < L.length
          · have hdd : decide (kOf L x < L.length) = true := decide_eq_true hdn
            go_wp2
            exact ret_tt (x := .slice ad L.length c) (y := .bool false) Tryd.results11 rfl rfl rfl ⟨_, by rw [HADB.out], by rw [addL_full hf]; exact HOr.out, B2.out.trans (HB.out.mono B2.out.size)⟩
          · have hdd : decide (kOf L x < L.length) = false := decide_eq_false hdn
            have y0 : wr.cell? ⟨wi.heap.size, 0, none⟩ = some (.int .i64 x.1) := HXr.out.cell 0
            have y1 : wr.cell? ⟨wi.heap.size, 1, none⟩ = some (.string x.2.1) := HXr.out.cell 1
            have y2 : wr.cell? ⟨wi.heap.size, 2, none⟩ = some (.bool x.2.2) := HXr.out.cell 2
            have HWA5 := Lib.hid (own_stays HW.out (w' := wr.alloc (.cells #[.int .i64 x.1, .string x.2.1, .bool x.2.2] 29)) (fun i hi => Below.heap_alloc wr _ i (own_lt HW.out i hi)))
            have HSRC5 := Lib.hid (wbox_src (Box.new wr 29 #[.int .i64 x.1, .string x.2.1, .bool x.2.2]))
            have HBA5 := Lib.hid (HB.out.alloc HB.out.size (.cells #[.int .i64 x.1, .string x.2.1, .bool x.2.2] 29))
            go_wp2_with (at_builtin; refine wpList_append_at rfl (.tmp 55) (.tmp 57) 25 rfl w2.heap.size 29 i0 _ 3 32 Tryd.underlying25 HI.out HZZ.out hz1 hz2 rfl (by decide) _ _ _ rfl HWA5.out _ _ _ _ rfl HSRC5.out (by unfold maxLen; omega) (by omega) HBA5.out.size ?_)
            intro v5 w5 own5 g5 at5
            have HW5 := Lib.hid own5
            have HB5 := Lib.hid (HBA5.out.grown g5 HBA5.out.size (own_ge HWA5.out))
            have HO5 := Lib.hid (own_stays HO2.out (w' := w5) (fun i hi => HB5.out.block i (own_lt HO2.out i hi)))
            clear own5 g5 at5 y0 y1 y2
            go_wp2
            exact ret_tt (x := .slice ad L.length c) (y := .bool false) Tryd.results11 rfl rfl rfl ⟨_, by rw [HADB.out], by rw [addL_full hf]; exact HO5.out, B2.out.trans (HB5.out.mono B2.out.size)⟩
end Go.Proofs.YtmcjpochpmiipaaDoor
