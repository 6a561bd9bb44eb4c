/- parcels: a call on a net. Conditions: the net lies in the call's own memory. -/
import Derived.Test.YtejoggbebmmlkaaWn
namespace Go.Proofs.Ytejoggbebmmlkaa
open Go.RowKit
set_option linter.unusedVariables false
set_option linter.unusedSimpArgs false
variable {w w' : World} {base n m : Nat} {v : Value} {ps : List Pk} {M : List (Int × Int)}

def zp : Pk := (0, 0, ⟨#[]⟩)
theorem pv_zp : pv zp = zeroPk := rfl
def sendOk (ps : List Pk) (M : List (Int × Int)) (p : Pk) : Bool := decide (ps.length < 2000) && !decide (pairOf p ∈ M)
def sendPs (ps : List Pk) (M : List (Int × Int)) (p : Pk) : List Pk := if sendOk ps M p then ps ++ [p] else ps
def getI (ps : List Pk) (k : Int) : Option Pk := if 0 ≤ k then ps[k.toNat]? else none
def eraseI (ps : List Pk) (k : Int) : List Pk := if (getI ps k).isSome then ps.eraseIdx k.toNat else ps
def doubleOk (ps : List Pk) (k : Int) : Bool := (getI ps k).isSome && decide (ps.length < 2000)
def doublePs (ps : List Pk) (k : Int) : List Pk := if doubleOk ps k then ps ++ [(getI ps k).getD zp] else ps

theorem send_all (p : Pk) (h : Net w base n m v ps M) (hb : base ≤ w.heap.size) (hl : ps.length ≤ 2000) :
    Calls Try.prog 10 #[.pointer (some ⟨n, 0, none⟩), pv p] w fun e w' => e = .returned (.bool (sendOk ps M p)) ∧ ∃ v', Net w' base n m v' (sendPs ps M p) M ∧ Goes w w' n m v v' := by
  by_cases h1 : ps.length < 2000
  · by_cases h2 : pairOf p ∈ M
    · have e1 : sendOk ps M p = false := by simp [sendOk, h2]
      rw [sendPs, e1]
      exact (send_apart p h h1 h2).mono fun _ _ ⟨he, hb'⟩ => ⟨he, v, h.below hb' (Nat.le_refl _), Goes.of_below hb'⟩
    · have e1 : sendOk ps M p = true := by simp [sendOk, h1, h2]
      rw [sendPs, e1]
      exact send_ok p h hb h1 h2
  · have e1 : sendOk ps M p = false := by simp [sendOk, h1]
    rw [sendPs, e1]
    exact (send_full p h (by omega) (by omega)).mono fun _ _ ⟨he, hb'⟩ => ⟨he, v, h.below hb' (Nat.le_refl _), Goes.of_below hb'⟩
theorem getI_none {k : Int} (h : getI ps k = none) : k < 0 ∨ (ps.length : Int) ≤ k := by
  unfold getI at h
  split at h
  · rw [List.getElem?_eq_none_iff] at h; omega
  · omega
theorem getI_some {k : Int} {p : Pk} (h : getI ps k = some p) : ∃ j : Nat, k = (j : Int) ∧ ps[j]? = some p := by
  unfold getI at h
  split at h
  · exact ⟨k.toNat, by omega, h⟩
  · cases h
theorem at_all (k : Int) (h : Net w base n m v ps M) (hl : ps.length ≤ 2000) :
    Calls Try.prog 13 #[.pointer (some ⟨n, 0, none⟩), .int .i64 k] w fun e w' => e = .returned (.tuple #[pv ((getI ps k).getD zp), .bool (getI ps k).isSome]) ∧ Below w.heap.size w w' := by
  cases hg : getI ps k with
  | none => exact at_no k h (getI_none hg) (by omega)
  | some p =>
    obtain ⟨j, rfl, hp⟩ := getI_some hg
    exact at_yes j p h hp (by omega)
theorem take_all (k : Int) (h : Net w base n m v ps M) (hb : base ≤ w.heap.size) (hl : ps.length ≤ 2000) :
    Calls Try.prog 11 #[.pointer (some ⟨n, 0, none⟩), .int .i64 k] w fun e w' => e = .returned (.tuple #[pv ((getI ps k).getD zp), .bool (getI ps k).isSome]) ∧ ∃ v', Net w' base n m v' (eraseI ps k) M ∧ Goes w w' n m v v' := by
  cases hg : getI ps k with
  | none =>
    rw [eraseI, hg]
    exact (take_no k h (getI_none hg) (by omega)).mono fun _ _ ⟨he, hb'⟩ => ⟨he, v, h.below hb' (Nat.le_refl _), Goes.of_below hb'⟩
  | some p =>
    rw [eraseI, hg]
    obtain ⟨j, rfl, hp⟩ := getI_some hg
    exact take_yes j p h hb hp (by omega)
theorem double_all (k : Int) (h : Net w base n m v ps M) (hb : base ≤ w.heap.size) (hl : ps.length ≤ 2000) :
    Calls Try.prog 14 #[.pointer (some ⟨n, 0, none⟩), .int .i64 k] w fun e w' => e = .returned (.bool (doubleOk ps k)) ∧ ∃ v', Net w' base n m v' (doublePs ps k) M ∧ Goes w w' n m v v' := by
  cases hg : getI ps k with
  | none =>
    have e1 : doubleOk ps k = false := by simp [doubleOk, hg]
    rw [doublePs, e1]
    exact (double_none k h (getI_none hg) (by omega)).mono fun _ _ ⟨he, hb'⟩ => ⟨he, v, h.below hb' (Nat.le_refl _), Goes.of_below hb'⟩
  | some p =>
    obtain ⟨j, rfl, hp⟩ := getI_some hg
    by_cases h1 : ps.length < 2000
    · have e1 : doubleOk ps (j : Int) = true := by simp [doubleOk, hg, h1]
      rw [doublePs, e1, hg]
      exact double_ok j p h hb hp h1
    · have e1 : doubleOk ps (j : Int) = false := by simp [doubleOk, h1]
      rw [doublePs, e1]
      exact (double_full j p h hp (by omega) (by omega)).mono fun _ _ ⟨he, hb'⟩ => ⟨he, v, h.below hb' (Nat.le_refl _), Goes.of_below hb'⟩

/-- an op. -/
structure Op6 where
  kd : Int
  k : Int
  j : Int
  p : Pk
def ov (o : Op6) : Value := .agg #[.int .i64 o.kd, .int .i64 o.k, .int .i64 o.j, .int .i64 o.p.1, .int .i64 o.p.2.1, .string o.p.2.2]
/-- what it does. -/
def stepP (o : Op6) (ps : List Pk) (M : List (Int × Int)) : (Pk × Bool) × List Pk × List (Int × Int) :=
  if o.kd = 0 then ((zp, sendOk ps M o.p), sendPs ps M o.p, M)
  else if o.kd = 1 then (((getI ps o.k).getD zp, (getI ps o.k).isSome), eraseI ps o.k, M)
  else if o.kd = 2 then ((zp, doubleOk ps o.k), doublePs ps o.k, M)
  else if o.kd = 3 then ((zp, false), ps.filter (fun p => !goesB o.k o.j p), addKey M (pairOf2 o.k o.j))
  else if o.kd = 4 then ((zp, false), ps, [])
  else ((zp, false), ps, M)
theorem step_len (o : Op6) (h : ps.length ≤ 2000) : (stepP o ps M).2.1.length ≤ 2000 := by
  unfold stepP
  split
  · simp only [sendPs]
    split
    · rename_i hs
      simp only [sendOk, Bool.and_eq_true, decide_eq_true_eq] at hs
      simp; omega
    · exact h
  · split
    · simp only [eraseI]
      split
      · exact Nat.le_trans (List.length_eraseIdx_le _ _) h
      · exact h
    · split
      · simp only [doublePs]
        split
        · rename_i hs
          simp only [doubleOk, Bool.and_eq_true, decide_eq_true_eq] at hs
          simp; omega
        · exact h
      · split
        · exact Nat.le_trans (List.length_filter_le _ _) h
        · split <;> exact h

theorem touch_of_goes {v v' : Value} {S : Nat → Prop} (h : Goes w w' n m v v') {w0 : World} (hb : Below w0.heap.size w0 w) (h2 : ∀ k, Of n m v k → k < w0.heap.size) : Goes w0 w' n m v v' := by
  refine ⟨(Touch.of_below hb).trans h.touch, fun k hk => ?_⟩
  rcases h.lies k hk with h1 | h1
  · exact .inl h1
  · exact .inr (Nat.le_trans hb.size h1)

theorem does_0 (o : Op6) (h : Net w base n m v ps M) (hb : base ≤ w.heap.size) (hl : ps.length ≤ 2000) :
    Calls Try.prog 15 #[.pointer (some ⟨n, 0, none⟩), .agg #[.int .i64 0, .int .i64 o.k, .int .i64 o.j, .int .i64 o.p.1, .int .i64 o.p.2.1, .string o.p.2.2]] w fun e w' => e = .returned (.tuple #[pv (zp), .bool (sendOk ps M o.p)]) ∧ ∃ v', Net w' base n m v' (sendPs ps M o.p) (M) ∧ Goes w w' n m v v' := by
  have hB0 := Lib.hid (((Below.refl w.heap.size w).alloc (Nat.le_refl _) (.cells #[.int .i64 0, .int .i64 o.k, .int .i64 o.j, .int .i64 o.p.1, .int .i64 o.p.2.1, .string o.p.2.2] 37)).alloc (by simp) (.cells #[.int .i64 0, .int .i64 0, .string ⟨#[]⟩] 27))
  have hX := Box.new (w.alloc (.cells #[.int .i64 0, .int .i64 o.k, .int .i64 o.j, .int .i64 o.p.1, .int .i64 o.p.2.1, .string o.p.2.2] 37)) 27 #[.int .i64 0, .int .i64 0, .string ⟨#[]⟩]
  have hO := (Box.new w 37 #[.int .i64 0, .int .i64 o.k, .int .i64 o.j, .int .i64 o.p.1, .int .i64 o.p.2.1, .string o.p.2.2]).alloc (.cells #[.int .i64 0, .int .i64 0, .string ⟨#[]⟩] 27)
  simp only [World.size_alloc] at hX
  have HX := Lib.hid hX
  have HO := Lib.hid hO
  have hn := h.box.lt
  have hHN := Lib.hid h
  clear h hX hO
  unfold pv
  go_enter Try.func15, Try.ntmps15
  go_wp2_with fail
  generalize (w.alloc (.cells #[.int .i64 0, .int .i64 o.k, .int .i64 o.j, .int .i64 o.p.1, .int .i64 o.p.2.1, .string o.p.2.2] 37)).alloc (.cells #[.int .i64 0, .int .i64 0, .string ⟨#[]⟩] 27) = w0 at HX HO hB0 ⊢
  have HN0 := Lib.hid (hHN.out.below hB0.out (Nat.le_refl _))
  have hsz := hB0.out.size
  refine (send_all o.p HN0.out (by omega) hl).mono ?_
  rintro e w1 ⟨rfl, v1, hN1, hG1⟩
  have HN1 := Lib.hid hN1
  have HG1 := Lib.hid hG1
  have HX1 := Lib.hid (HX.out.touch hG1.touch (fun hk => by have := hHN.out.of_lt _ hk; omega))
  have r0 : w1.cell? ⟨w.heap.size + 1, 0, none⟩ = some (.int .i64 0) := HX1.out.cell 0
  have r1 : w1.cell? ⟨w.heap.size + 1, 1, none⟩ = some (.int .i64 0) := HX1.out.cell 1
  have r2 : w1.cell? ⟨w.heap.size + 1, 2, none⟩ = some (.string ⟨#[]⟩) := HX1.out.cell 2
  have f0 := HX1.out.frozen 0
  have f1 := HX1.out.frozen 1
  have f2 := HX1.out.frozen 2
  have hw1 := HX1.out.lt
  clear hN1 hG1
  go_wp2
  have hno : ¬ Of n m v1 (w.heap.size + 1) := fun hk => by
    rcases HG1.out.ofs _ hk with h1 | h1
    · have := hHN.out.of_lt _ h1; omega
    · have := HX.out.lt; omega
  refine ret_box Try.results15 rfl rfl rfl (((HX1.out.set 0 _).set 1 _).set 2 _) ⟨rfl, v1, ((HN1.out.setCell hno _).setCell hno _).setCell hno _, ?_⟩
  have hg := touch_of_goes (S := fun _ => True) HG1.out hB0.out hHN.out.of_lt
  exact ⟨((hg.touch.setCell_new (by simp) _).setCell_new (by simp) _).setCell_new (by simp) _, hg.lies⟩

theorem does_1 (o : Op6) (h : Net w base n m v ps M) (hb : base ≤ w.heap.size) (hl : ps.length ≤ 2000) :
    Calls Try.prog 15 #[.pointer (some ⟨n, 0, none⟩), .agg #[.int .i64 1, .int .i64 o.k, .int .i64 o.j, .int .i64 o.p.1, .int .i64 o.p.2.1, .string o.p.2.2]] w fun e w' => e = .returned (.tuple #[pv ((getI ps o.k).getD zp), .bool ((getI ps o.k).isSome)]) ∧ ∃ v', Net w' base n m v' (eraseI ps o.k) (M) ∧ Goes w w' n m v v' := by
  have hB0 := Lib.hid (((Below.refl w.heap.size w).alloc (Nat.le_refl _) (.cells #[.int .i64 1, .int .i64 o.k, .int .i64 o.j, .int .i64 o.p.1, .int .i64 o.p.2.1, .string o.p.2.2] 37)).alloc (by simp) (.cells #[.int .i64 0, .int .i64 0, .string ⟨#[]⟩] 27))
  have hX := Box.new (w.alloc (.cells #[.int .i64 1, .int .i64 o.k, .int .i64 o.j, .int .i64 o.p.1, .int .i64 o.p.2.1, .string o.p.2.2] 37)) 27 #[.int .i64 0, .int .i64 0, .string ⟨#[]⟩]
  have hO := (Box.new w 37 #[.int .i64 1, .int .i64 o.k, .int .i64 o.j, .int .i64 o.p.1, .int .i64 o.p.2.1, .string o.p.2.2]).alloc (.cells #[.int .i64 0, .int .i64 0, .string ⟨#[]⟩] 27)
  simp only [World.size_alloc] at hX
  have HX := Lib.hid hX
  have HO := Lib.hid hO
  have hn := h.box.lt
  have hHN := Lib.hid h
  clear h hX hO
  unfold pv
  go_enter Try.func15, Try.ntmps15
  go_wp2_with fail
  generalize (w.alloc (.cells #[.int .i64 1, .int .i64 o.k, .int .i64 o.j, .int .i64 o.p.1, .int .i64 o.p.2.1, .string o.p.2.2] 37)).alloc (.cells #[.int .i64 0, .int .i64 0, .string ⟨#[]⟩] 27) = w0 at HX HO hB0 ⊢
  have HN0 := Lib.hid (hHN.out.below hB0.out (Nat.le_refl _))
  have hsz := hB0.out.size
  obtain ⟨r, hr⟩ : ∃ r, (getI ps o.k).getD zp = r := ⟨_, rfl⟩
  have C1 := Lib.hid (take_all o.k HN0.out (by omega) hl)
  rw [hr] at C1
  unfold pv at C1
  have HR := Lib.hid hr
  clear hr
  refine C1.out.mono ?_
  rintro e w1 ⟨rfl, v1, hN1, hG1⟩
  have HN1 := Lib.hid hN1
  have HG1 := Lib.hid hG1
  have HX1 := Lib.hid (HX.out.touch hG1.touch (fun hk => by have := hHN.out.of_lt _ hk; omega))
  have r0 : w1.cell? ⟨w.heap.size + 1, 0, none⟩ = some (.int .i64 0) := HX1.out.cell 0
  have r1 : w1.cell? ⟨w.heap.size + 1, 1, none⟩ = some (.int .i64 0) := HX1.out.cell 1
  have r2 : w1.cell? ⟨w.heap.size + 1, 2, none⟩ = some (.string ⟨#[]⟩) := HX1.out.cell 2
  have f0 := HX1.out.frozen 0
  have f1 := HX1.out.frozen 1
  have f2 := HX1.out.frozen 2
  have hw1 := HX1.out.lt
  clear hN1 hG1
  go_wp2
  have hno : ¬ Of n m v1 (w.heap.size + 1) := fun hk => by
    rcases HG1.out.ofs _ hk with h1 | h1
    · have := hHN.out.of_lt _ h1; omega
    · have := HX.out.lt; omega
  refine ret_box Try.results15 rfl rfl rfl (((HX1.out.set 0 _).set 1 _).set 2 _) ⟨by rw [HR.out]; rfl, v1, ((HN1.out.setCell hno _).setCell hno _).setCell hno _, ?_⟩
  have hg := touch_of_goes (S := fun _ => True) HG1.out hB0.out hHN.out.of_lt
  exact ⟨((hg.touch.setCell_new (by simp) _).setCell_new (by simp) _).setCell_new (by simp) _, hg.lies⟩

theorem does_2 (o : Op6) (h : Net w base n m v ps M) (hb : base ≤ w.heap.size) (hl : ps.length ≤ 2000) :
    Calls Try.prog 15 #[.pointer (some ⟨n, 0, none⟩), .agg #[.int .i64 2, .int .i64 o.k, .int .i64 o.j, .int .i64 o.p.1, .int .i64 o.p.2.1, .string o.p.2.2]] w fun e w' => e = .returned (.tuple #[pv (zp), .bool (doubleOk ps o.k)]) ∧ ∃ v', Net w' base n m v' (doublePs ps o.k) (M) ∧ Goes w w' n m v v' := by
  have hB0 := Lib.hid (((Below.refl w.heap.size w).alloc (Nat.le_refl _) (.cells #[.int .i64 2, .int .i64 o.k, .int .i64 o.j, .int .i64 o.p.1, .int .i64 o.p.2.1, .string o.p.2.2] 37)).alloc (by simp) (.cells #[.int .i64 0, .int .i64 0, .string ⟨#[]⟩] 27))
  have hX := Box.new (w.alloc (.cells #[.int .i64 2, .int .i64 o.k, .int .i64 o.j, .int .i64 o.p.1, .int .i64 o.p.2.1, .string o.p.2.2] 37)) 27 #[.int .i64 0, .int .i64 0, .string ⟨#[]⟩]
  have hO := (Box.new w 37 #[.int .i64 2, .int .i64 o.k, .int .i64 o.j, .int .i64 o.p.1, .int .i64 o.p.2.1, .string o.p.2.2]).alloc (.cells #[.int .i64 0, .int .i64 0, .string ⟨#[]⟩] 27)
  simp only [World.size_alloc] at hX
  have HX := Lib.hid hX
  have HO := Lib.hid hO
  have hn := h.box.lt
  have hHN := Lib.hid h
  clear h hX hO
  unfold pv
  go_enter Try.func15, Try.ntmps15
  go_wp2_with fail
  generalize (w.alloc (.cells #[.int .i64 2, .int .i64 o.k, .int .i64 o.j, .int .i64 o.p.1, .int .i64 o.p.2.1, .string o.p.2.2] 37)).alloc (.cells #[.int .i64 0, .int .i64 0, .string ⟨#[]⟩] 27) = w0 at HX HO hB0 ⊢
  have HN0 := Lib.hid (hHN.out.below hB0.out (Nat.le_refl _))
  have hsz := hB0.out.size
  refine (double_all o.k HN0.out (by omega) hl).mono ?_
  rintro e w1 ⟨rfl, v1, hN1, hG1⟩
  have HN1 := Lib.hid hN1
  have HG1 := Lib.hid hG1
  have HX1 := Lib.hid (HX.out.touch hG1.touch (fun hk => by have := hHN.out.of_lt _ hk; omega))
  have r0 : w1.cell? ⟨w.heap.size + 1, 0, none⟩ = some (.int .i64 0) := HX1.out.cell 0
  have r1 : w1.cell? ⟨w.heap.size + 1, 1, none⟩ = some (.int .i64 0) := HX1.out.cell 1
  have r2 : w1.cell? ⟨w.heap.size + 1, 2, none⟩ = some (.string ⟨#[]⟩) := HX1.out.cell 2
  have f0 := HX1.out.frozen 0
  have f1 := HX1.out.frozen 1
  have f2 := HX1.out.frozen 2
  have hw1 := HX1.out.lt
  clear hN1 hG1
  go_wp2
  have hno : ¬ Of n m v1 (w.heap.size + 1) := fun hk => by
    rcases HG1.out.ofs _ hk with h1 | h1
    · have := hHN.out.of_lt _ h1; omega
    · have := HX.out.lt; omega
  refine ret_box Try.results15 rfl rfl rfl (((HX1.out.set 0 _).set 1 _).set 2 _) ⟨rfl, v1, ((HN1.out.setCell hno _).setCell hno _).setCell hno _, ?_⟩
  have hg := touch_of_goes (S := fun _ => True) HG1.out hB0.out hHN.out.of_lt
  exact ⟨((hg.touch.setCell_new (by simp) _).setCell_new (by simp) _).setCell_new (by simp) _, hg.lies⟩

theorem does_3 (o : Op6) (h : Net w base n m v ps M) (hb : base ≤ w.heap.size) (hl : ps.length ≤ 2000) :
    Calls Try.prog 15 #[.pointer (some ⟨n, 0, none⟩), .agg #[.int .i64 3, .int .i64 o.k, .int .i64 o.j, .int .i64 o.p.1, .int .i64 o.p.2.1, .string o.p.2.2]] w fun e w' => e = .returned (.tuple #[pv (zp), .bool (false)]) ∧ ∃ v', Net w' base n m v' (ps.filter (fun p => !goesB o.k o.j p)) (addKey M (pairOf2 o.k o.j)) ∧ Goes w w' n m v v' := by
  have hB0 := Lib.hid (((Below.refl w.heap.size w).alloc (Nat.le_refl _) (.cells #[.int .i64 3, .int .i64 o.k, .int .i64 o.j, .int .i64 o.p.1, .int .i64 o.p.2.1, .string o.p.2.2] 37)).alloc (by simp) (.cells #[.int .i64 0, .int .i64 0, .string ⟨#[]⟩] 27))
  have hX := Box.new (w.alloc (.cells #[.int .i64 3, .int .i64 o.k, .int .i64 o.j, .int .i64 o.p.1, .int .i64 o.p.2.1, .string o.p.2.2] 37)) 27 #[.int .i64 0, .int .i64 0, .string ⟨#[]⟩]
  have hO := (Box.new w 37 #[.int .i64 3, .int .i64 o.k, .int .i64 o.j, .int .i64 o.p.1, .int .i64 o.p.2.1, .string o.p.2.2]).alloc (.cells #[.int .i64 0, .int .i64 0, .string ⟨#[]⟩] 27)
  simp only [World.size_alloc] at hX
  have HX := Lib.hid hX
  have HO := Lib.hid hO
  have hn := h.box.lt
  have hHN := Lib.hid h
  clear h hX hO
  unfold pv
  go_enter Try.func15, Try.ntmps15
  go_wp2_with fail
  generalize (w.alloc (.cells #[.int .i64 3, .int .i64 o.k, .int .i64 o.j, .int .i64 o.p.1, .int .i64 o.p.2.1, .string o.p.2.2] 37)).alloc (.cells #[.int .i64 0, .int .i64 0, .string ⟨#[]⟩] 27) = w0 at HX HO hB0 ⊢
  have HN0 := Lib.hid (hHN.out.below hB0.out (Nat.le_refl _))
  have hsz := hB0.out.size
  refine (part_any o.k o.j HN0.out (by omega) (by omega)).mono ?_
  rintro e w1 ⟨rfl, v1, hN1, hG1⟩
  have HN1 := Lib.hid hN1
  have HG1 := Lib.hid hG1
  have HX1 := Lib.hid (HX.out.touch hG1.touch (fun hk => by have := hHN.out.of_lt _ hk; omega))
  have r0 : w1.cell? ⟨w.heap.size + 1, 0, none⟩ = some (.int .i64 0) := HX1.out.cell 0
  have r1 : w1.cell? ⟨w.heap.size + 1, 1, none⟩ = some (.int .i64 0) := HX1.out.cell 1
  have r2 : w1.cell? ⟨w.heap.size + 1, 2, none⟩ = some (.string ⟨#[]⟩) := HX1.out.cell 2
  have f0 := HX1.out.frozen 0
  have f1 := HX1.out.frozen 1
  have f2 := HX1.out.frozen 2
  have hw1 := HX1.out.lt
  clear hN1 hG1
  go_wp2
  have hno : ¬ Of n m v1 (w.heap.size + 1) := fun hk => by
    rcases HG1.out.ofs _ hk with h1 | h1
    · have := hHN.out.of_lt _ h1; omega
    · have := HX.out.lt; omega
  refine ret_box Try.results15 rfl rfl rfl (((HX1.out.set 0 _).set 1 _).set 2 _) ⟨rfl, v1, ((HN1.out.setCell hno _).setCell hno _).setCell hno _, ?_⟩
  have hg := touch_of_goes (S := fun _ => True) HG1.out hB0.out hHN.out.of_lt
  exact ⟨((hg.touch.setCell_new (by simp) _).setCell_new (by simp) _).setCell_new (by simp) _, hg.lies⟩

theorem does_4 (o : Op6) (h : Net w base n m v ps M) (hb : base ≤ w.heap.size) (hl : ps.length ≤ 2000) :
    Calls Try.prog 15 #[.pointer (some ⟨n, 0, none⟩), .agg #[.int .i64 4, .int .i64 o.k, .int .i64 o.j, .int .i64 o.p.1, .int .i64 o.p.2.1, .string o.p.2.2]] w fun e w' => e = .returned (.tuple #[pv (zp), .bool (false)]) ∧ ∃ v', Net w' base n m v' (ps) ([]) ∧ Goes w w' n m v v' := by
  have hB0 := Lib.hid (((Below.refl w.heap.size w).alloc (Nat.le_refl _) (.cells #[.int .i64 4, .int .i64 o.k, .int .i64 o.j, .int .i64 o.p.1, .int .i64 o.p.2.1, .string o.p.2.2] 37)).alloc (by simp) (.cells #[.int .i64 0, .int .i64 0, .string ⟨#[]⟩] 27))
  have hX := Box.new (w.alloc (.cells #[.int .i64 4, .int .i64 o.k, .int .i64 o.j, .int .i64 o.p.1, .int .i64 o.p.2.1, .string o.p.2.2] 37)) 27 #[.int .i64 0, .int .i64 0, .string ⟨#[]⟩]
  have hO := (Box.new w 37 #[.int .i64 4, .int .i64 o.k, .int .i64 o.j, .int .i64 o.p.1, .int .i64 o.p.2.1, .string o.p.2.2]).alloc (.cells #[.int .i64 0, .int .i64 0, .string ⟨#[]⟩] 27)
  simp only [World.size_alloc] at hX
  have HX := Lib.hid hX
  have HO := Lib.hid hO
  have hn := h.box.lt
  have hHN := Lib.hid h
  clear h hX hO
  unfold pv
  go_enter Try.func15, Try.ntmps15
  go_wp2_with fail
  generalize (w.alloc (.cells #[.int .i64 4, .int .i64 o.k, .int .i64 o.j, .int .i64 o.p.1, .int .i64 o.p.2.1, .string o.p.2.2] 37)).alloc (.cells #[.int .i64 0, .int .i64 0, .string ⟨#[]⟩] 27) = w0 at HX HO hB0 ⊢
  have HN0 := Lib.hid (hHN.out.below hB0.out (Nat.le_refl _))
  have hsz := hB0.out.size
  refine (heal_any HN0.out).mono ?_
  rintro e w1 ⟨rfl, hN1, hG1⟩
  have HN1 := Lib.hid hN1
  have HG1 := Lib.hid hG1
  have HX1 := Lib.hid (HX.out.touch hG1.touch (fun hk => by have := hHN.out.of_lt _ hk; omega))
  have r0 : w1.cell? ⟨w.heap.size + 1, 0, none⟩ = some (.int .i64 0) := HX1.out.cell 0
  have r1 : w1.cell? ⟨w.heap.size + 1, 1, none⟩ = some (.int .i64 0) := HX1.out.cell 1
  have r2 : w1.cell? ⟨w.heap.size + 1, 2, none⟩ = some (.string ⟨#[]⟩) := HX1.out.cell 2
  have f0 := HX1.out.frozen 0
  have f1 := HX1.out.frozen 1
  have f2 := HX1.out.frozen 2
  have hw1 := HX1.out.lt
  clear hN1 hG1
  go_wp2
  have hno : ¬ Of n m v (w.heap.size + 1) := fun hk => by
    rcases HG1.out.ofs _ hk with h1 | h1
    · have := hHN.out.of_lt _ h1; omega
    · have := HX.out.lt; omega
  refine ret_box Try.results15 rfl rfl rfl (((HX1.out.set 0 _).set 1 _).set 2 _) ⟨rfl, v, ((HN1.out.setCell hno _).setCell hno _).setCell hno _, ?_⟩
  have hg := touch_of_goes (S := fun _ => True) HG1.out hB0.out hHN.out.of_lt
  exact ⟨((hg.touch.setCell_new (by simp) _).setCell_new (by simp) _).setCell_new (by simp) _, hg.lies⟩

theorem does_other (o : Op6) (h : Net w base n m v ps M) (h0 : o.kd ≠ 0) (h1 : o.kd ≠ 1) (h2 : o.kd ≠ 2) (h3 : o.kd ≠ 3) (h4 : o.kd ≠ 4) :
    Calls Try.prog 15 #[.pointer (some ⟨n, 0, none⟩), ov o] w fun e w' => e = .returned (.tuple #[pv zp, .bool false]) ∧ Below w.heap.size w w' := by
  have e0 : (o.kd == 0) = false := by simpa using h0
  have e1 : (o.kd == 1) = false := by simpa using h1
  have e2 : (o.kd == 2) = false := by simpa using h2
  have e3 : (o.kd == 3) = false := by simpa using h3
  have e4 : (o.kd == 4) = false := by simpa using h4
  have hX := Box.new (w.alloc (.cells #[.int .i64 o.kd, .int .i64 o.k, .int .i64 o.j, .int .i64 o.p.1, .int .i64 o.p.2.1, .string o.p.2.2] 37)) 27 #[.int .i64 0, .int .i64 0, .string ⟨#[]⟩]
  simp only [World.size_alloc] at hX
  have HX := Lib.hid hX
  clear h h0 h1 h2 h3 h4 hX
  unfold ov
  go_enter Try.func15, Try.ntmps15
  go_wp2
  exact ret_box Try.results15 rfl rfl rfl HX.out ⟨rfl, (((Below.refl w.heap.size w).alloc (Nat.le_refl _) _).alloc (by simp) _)⟩

theorem does_any (o : Op6) (h : Net w base n m v ps M) (hb : base ≤ w.heap.size) (hl : ps.length ≤ 2000) :
    Calls Try.prog 15 #[.pointer (some ⟨n, 0, none⟩), ov o] w fun e w' => e = .returned (.tuple #[pv (stepP o ps M).1.1, .bool (stepP o ps M).1.2]) ∧ ∃ v', Net w' base n m v' (stepP o ps M).2.1 (stepP o ps M).2.2 ∧ Goes w w' n m v v' := by
  obtain ⟨kd, k, j, p⟩ := o
  by_cases h0 : kd = 0
  · subst h0; exact does_0 ⟨0, k, j, p⟩ h hb hl
  by_cases h1 : kd = 1
  · subst h1; exact does_1 ⟨1, k, j, p⟩ h hb hl
  by_cases h2 : kd = 2
  · subst h2; exact does_2 ⟨2, k, j, p⟩ h hb hl
  by_cases h3 : kd = 3
  · subst h3; exact does_3 ⟨3, k, j, p⟩ h hb hl
  by_cases h4 : kd = 4
  · subst h4; exact does_4 ⟨4, k, j, p⟩ h hb hl
  have e : stepP ⟨kd, k, j, p⟩ ps M = ((zp, false), ps, M) := by simp [stepP, h0, h1, h2, h3, h4]
  rw [e]
  exact (does_other ⟨kd, k, j, p⟩ h h0 h1 h2 h3 h4).mono fun _ _ ⟨he, hb'⟩ => ⟨he, v, h.below hb' (Nat.le_refl _), Goes.of_below hb'⟩
end Go.Proofs.Ytejoggbebmmlkaa
