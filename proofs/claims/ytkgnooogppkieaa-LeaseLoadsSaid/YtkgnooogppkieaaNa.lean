/- lease: Load, and the document's Check. Conditions: the row is not too long. -/
import Derived.Test.YtkgnooogppkieaaLz
namespace Go.Proofs.Ytkgnooogppkieaa
open Go.RowKit
set_option linter.unusedVariables false
set_option linter.unusedSimpArgs false
variable {w w' : World} {base : Nat} {L : List Lz}

/-- the first k are by rising ids, and right. -/
structure Fore (L : List Lz) (k : Nat) : Prop where
  right : ∀ j p, j < k → L[j]? = some p → rightB p = true
  rises : ∀ j p q, j + 1 < k → L[j]? = some p → L[j + 1]? = some q → p.1 < q.1
theorem fore_zero (L : List Lz) : Fore L 0 := ⟨fun _ _ h => by omega, fun _ _ _ h => by omega⟩
theorem good_fore (h : Good L) : Fore L L.length := by
  refine ⟨fun j p _ hp => h.right p (List.mem_of_getElem? hp), fun j p q _ hp hq => ?_⟩
  have hj := (List.getElem?_eq_some_iff.1 hq).1
  have h1 := List.pairwise_iff_getElem.1 h.rises j (j + 1) (by omega) hj (by omega)
  rw [(List.getElem?_eq_some_iff.1 hp).2, (List.getElem?_eq_some_iff.1 hq).2] at h1
  exact h1
theorem fore_good (h : Fore L L.length) (hl : L.length ≤ 100) : Good L := by
  have hstep : ∀ d j p q, L[j]? = some p → L[j + d + 1]? = some q → p.1 < q.1 := by
    intro d
    induction d with
    | zero => intro j p q hp hq; exact h.rises j p q ((List.getElem?_eq_some_iff.1 hq).1) hp hq
    | succ d ih =>
      intro j p q hp hq
      have hj := (List.getElem?_eq_some_iff.1 hq).1
      obtain ⟨r, hr⟩ : ∃ r, L[j + d + 1]? = some r := ⟨_, List.getElem?_eq_getElem (by omega)⟩
      have h1 := ih j p r hp hr
      have h2 := h.rises (j + d + 1) r q (by omega) hr (by rw [← hq]; congr 1)
      omega
  refine ⟨?_, fun p hp => ?_, hl⟩
  · show List.Pairwise (fun a b : Lz => a.1 < b.1) L
    rw [List.pairwise_iff_getElem]
    intro i j hi hj hij
    obtain ⟨d, rfl⟩ : ∃ d, j = i + d + 1 := ⟨j - i - 1, by omega⟩
    exact hstep d i _ _ (List.getElem?_eq_getElem hi) (List.getElem?_eq_getElem hj)
  · obtain ⟨j, hj⟩ := List.mem_iff_getElem?.1 hp
    exact h.right j p ((List.getElem?_eq_some_iff.1 hj).1) hj
theorem right_pos {p : Lz} (h : rightB p = true) : 1 ≤ p.1 := by
  unfold rightB at h; simp only [decide_eq_true_eq] at h; exact h.1
/-- the one ahead of k. -/
def lastL (L : List Lz) (k : Nat) : Lz := if k = 0 then zl else (L[k - 1]?).getD zl
theorem fore_next {k : Nat} {p : Lz} (h : Fore L k) (hp : L[k]? = some p) : Fore L (k + 1) ↔ (rightB p = true ∧ (lastL L k).1 < p.1) := by
  constructor
  · intro h2
    refine ⟨h2.right k p (by omega) hp, ?_⟩
    have hr := right_pos (h2.right k p (by omega) hp)
    unfold lastL
    split
    · show (0 : Int) < _; omega
    · obtain ⟨q, hq⟩ : ∃ q, L[k - 1]? = some q := ⟨_, List.getElem?_eq_getElem (by have := (List.getElem?_eq_some_iff.1 hp).1; omega)⟩
      rw [hq]
      exact h2.rises (k - 1) q p (by omega) hq (by rw [← hp]; congr 1; omega)
  · rintro ⟨h1, h2⟩
    refine ⟨fun j q hj hq => ?_, fun j q r hj hq hr => ?_⟩
    · rcases Nat.lt_or_ge j k with h3 | h3
      · exact h.right j q h3 hq
      · obtain rfl : j = k := by omega
        rw [hp] at hq; cases hq; exact h1
    · rcases Nat.lt_or_ge (j + 1) k with h3 | h3
      · exact h.rises j q r h3 hq hr
      · obtain rfl : k = j + 1 := by omega
        rw [hp] at hr; cases hr
        unfold lastL at h2
        rw [if_neg (by omega), Nat.add_sub_cancel, hq] at h2
        exact h2
theorem fore_mono {k m : Nat} (h : Fore L m) (hk : k ≤ m) : Fore L k := ⟨fun j p hj => h.right j p (by omega), fun j p q hj => h.rises j p q (by omega)⟩
theorem fore_of_good (h : Good L) {k : Nat} (hk : k ≤ L.length) : Fore L k := fore_mono (good_fore h) hk

/-- what Check says. -/
def Checked (L : List Lz) (w : World) (e : Ending) (w' : World) : Prop := ((Good L ∧ e = .returned (.int .i64 0)) ∨ (¬ Good L ∧ e = .returned (.int .i64 1))) ∧ Below w.heap.size w w'
set_option maxRecDepth 100000 in
set_option maxHeartbeats 4000000 in
theorem check_any {bad : Nat → Prop} (ad : Option Addr) (c : Nat) (h : Sees w bad ad L) (hl : L.length ≤ 1000) :
    Calls Try.prog 25 #[.slice ad L.length c] w (Checked L w) := by
  have HO := Lib.hid h
  clear h
  go_enter Try.func25, Try.ntmps25
  go_wp2
  go_loopw [3] (fun i wr => ∃ k : Nat, k ≤ L.length ∧ i = .int .i64 k ∧ Fore L k ∧ Below w.heap.size w wr) (fun i _ => L.length - (intOf i).toNat)
  case atStart => exact ⟨0, Nat.zero_le _, rfl, fore_zero L, Below.refl _ _⟩
  case round =>
    obtain ⟨k, hk, rfl, hF, hbel⟩ := hrel
    have HF := Lib.hid hF
    have HB := Lib.hid hbel
    clear hF hbel
    by_cases hlt : k < L.length
    · obtain ⟨p, hp⟩ : ∃ p, L[k]? = some p := ⟨_, List.getElem?_eq_getElem hlt⟩
      obtain ⟨g, off, rfl, hg, _, d0, d1, d2⟩ := (HO.out.below HB.out).get k p hp
      have D := Lib.hid (And.intro d0 (And.intro d1 d2))
      have HN := Lib.hid (fore_next HF.out hp)
      have hi0 : (0 : Int) ≤ (k : Int) := by omega
      have hi1 : (k : Int) < (L.length : Int) := by omega
      have hnat : ((k : Int)).toNat = k := by omega
      clear d0 d1 d2
      cases hr : rightB p
      · have HNO := Lib.hid (show ¬ Good L from fun hG => by have := (HN.out.1 (fore_of_good hG (by omega))).1; rw [hr] at this; cases this)
        clear hp
        go_wp2
        refine wp_region_below (B := wr.heap.size) (w0 := wr) (by kernel_rfl) (by kernel_rfl) (Below.refl _ _) ?_
        go_big_quiet_want; go_big_quiet_op; go_big_quiet_on
        go_big_quiet_want; go_big_quiet_op; go_big_quiet_on
        go_big_quiet_want; apply quiet_value; (· (intro w hw; go_simp; try rfl)); simp only [Act.put, List.setIfInBounds_toArray, List.set_cons_succ, List.set_cons_zero]; go_big_quiet_on
        go_big_quiet_want; apply quiet_value; (· (intro w hw; have d0 := (hw.cell (p := ⟨g, off + k * 3, none⟩) hg).trans D.out.1; have d1 := (hw.cell (p := ⟨g, off + k * 3 + 1, none⟩) hg).trans D.out.2.1; have d2 := (hw.cell (p := ⟨g, off + k * 3 + 2, none⟩) hg).trans D.out.2.2; go_simp; try rfl)); simp only [Act.put, List.setIfInBounds_toArray, List.set_cons_succ, List.set_cons_zero]; go_big_quiet_on
        go_big_quiet_want; apply quiet_call (f := 36); (· (intro w hw; go_simp; try rfl)); (· (exact fun w hw => in_below ((hr ▸ rright_any p w)) hw (Nat.le_refl _))); simp only [Act.put, List.setIfInBounds_toArray, List.set_cons_succ, List.set_cons_zero]; go_big_quiet_on
        go_big_quiet_want; apply quiet_value; (· (intro w hw; go_simp; try rfl)); simp only [Act.put, List.setIfInBounds_toArray, List.set_cons_succ, List.set_cons_zero]; go_big_quiet_on
        go_big_quiet_want; go_big_quiet_op; go_big_quiet_on
        go_big_quiet_skip
        go_big_quiet_skip
        go_big_quiet_skip
        go_big_quiet_skip
        go_big_quiet_skip
        go_big_quiet_skip
        go_big_quiet_skip
        go_big_quiet_skip
        go_big_quiet_skip
        go_big_quiet_skip
        go_big_quiet_skip
        go_big_quiet_skip
        go_big_quiet_skip
        go_big_quiet_skip
        go_big_quiet_skip
        go_big_quiet_skip
        go_big_quiet_want; apply quiet_value; (· (intro w hw; go_simp; try rfl)); simp only [Act.put, List.setIfInBounds_toArray, List.set_cons_succ, List.set_cons_zero]; go_big_quiet_on
        refine wpQuiet_nil ?_
        intro w2 hb2
        have HB2 := Lib.hid (HB.out.trans (hb2.mono HB.out.size))
        clear hb2
        go_wp2
        go_ret
        exact ⟨.inr ⟨HNO.out, rfl⟩, HB2.out⟩
      · by_cases hk0 : k = 0
        · subst hk0
          have D0 : Hid (wr.cell? ⟨g, off, none⟩ = some (.int .i64 p.1) ∧ wr.cell? ⟨g, off + 1, none⟩ = some (.int .i64 p.2.1) ∧ wr.cell? ⟨g, off + 2, none⟩ = some (.int .i64 p.2.2)) := by
            have := D.out
            simp only [Nat.zero_mul, Nat.add_zero] at this
            exact this
          have HS := Lib.hid (show Fore L (0 + 1) from HN.out.2 ⟨hr, right_pos hr⟩)
          clear hp
          go_wp2
          refine wp_region_below (B := wr.heap.size) (w0 := wr) (by kernel_rfl) (by kernel_rfl) (Below.refl _ _) ?_
          go_big_quiet_want; go_big_quiet_op; go_big_quiet_on
          go_big_quiet_want; go_big_quiet_op; go_big_quiet_on
          go_big_quiet_want; apply quiet_value; (· (intro w hw; go_simp; try rfl)); simp only [Act.put, List.setIfInBounds_toArray, List.set_cons_succ, List.set_cons_zero]; go_big_quiet_on
          go_big_quiet_want; apply quiet_value; (· (intro w hw; have d0 := (hw.cell (p := ⟨g, off, none⟩) hg).trans D0.out.1; have d1 := (hw.cell (p := ⟨g, off + 1, none⟩) hg).trans D0.out.2.1; have d2 := (hw.cell (p := ⟨g, off + 2, none⟩) hg).trans D0.out.2.2; go_simp; try rfl)); simp only [Act.put, List.setIfInBounds_toArray, List.set_cons_succ, List.set_cons_zero]; go_big_quiet_on
          go_big_quiet_want; apply quiet_call (f := 36); (· (intro w hw; go_simp; try rfl)); (· (exact fun w hw => in_below ((hr ▸ rright_any p w)) hw (Nat.le_refl _))); simp only [Act.put, List.setIfInBounds_toArray, List.set_cons_succ, List.set_cons_zero]; go_big_quiet_on
          go_big_quiet_want; apply quiet_value; (· (intro w hw; go_simp; try rfl)); simp only [Act.put, List.setIfInBounds_toArray, List.set_cons_succ, List.set_cons_zero]; go_big_quiet_on
          go_big_quiet_want; go_big_quiet_op; go_big_quiet_on
          go_big_quiet_want; go_big_quiet_op; go_big_quiet_on
          go_big_quiet_want; apply quiet_value; (· (intro w hw; go_simp; try rfl)); simp only [Act.put, List.setIfInBounds_toArray, List.set_cons_succ, List.set_cons_zero]; go_big_quiet_on
          go_big_quiet_want; go_big_quiet_op; go_big_quiet_on
          go_big_quiet_skip
          go_big_quiet_skip
          go_big_quiet_skip
          go_big_quiet_skip
          go_big_quiet_skip
          go_big_quiet_skip
          go_big_quiet_skip
          go_big_quiet_skip
          go_big_quiet_skip
          go_big_quiet_skip
          go_big_quiet_skip
          go_big_quiet_skip
          go_big_quiet_want; apply quiet_value; (· (intro w hw; go_simp; try rfl)); simp only [Act.put, List.setIfInBounds_toArray, List.set_cons_succ, List.set_cons_zero]; go_big_quiet_on
          go_big_quiet_want; apply quiet_value; (· (intro w hw; go_simp; try rfl)); simp only [Act.put, List.setIfInBounds_toArray, List.set_cons_succ, List.set_cons_zero]; go_big_quiet_on
          refine wpQuiet_nil ?_
          intro w2 hb2
          have HB2 := Lib.hid (HB.out.trans (hb2.mono HB.out.size))
          clear hb2
          go_wp2
          go_roundw
          case rel => exact ⟨0 + 1, by omega, by go_num, HS.out, HB2.out⟩
          case measure => simp [intOf]; omega
        · obtain ⟨q, hq⟩ : ∃ q, L[k - 1]? = some q := ⟨_, List.getElem?_eq_getElem (by omega)⟩
          obtain ⟨g', off', hgo, _, _, d3, _, _⟩ := (HO.out.below HB.out).get (k - 1) q hq
          obtain ⟨rfl, rfl⟩ : g = g' ∧ off = off' := by injection hgo with h1; injection h1 with h2 h3; exact ⟨h2, h3⟩
          have DP := Lib.hid d3
          have HLQ := Lib.hid (show lastL L k = q by unfold lastL; rw [if_neg hk0, hq]; rfl)
          have hpos : (0 : Int) < (k : Int) := by omega
          have hposn : 0 < k := by omega
          have hposd : decide (0 < k) = true := by simpa using hposn
          have hi2 : (0 : Int) ≤ (k : Int) - 1 := by omega
          have hi2b : (1 : Int) ≤ (k : Int) := by omega
          have hi3 : (k : Int) - 1 < (L.length : Int) := by omega
          have hw1 : IntKind.i64.wrap ((k : Int) - 1) = (k : Int) - 1 := by rw [IntKind.wrap_i64]; omega
          have hn1 : ((k : Int) - 1).toNat = k - 1 := by omega
          clear d3 hp hq hgo
          by_cases hle : p.1 ≤ q.1
          · have hle' : decide (p.1 ≤ q.1) = true := by simpa using hle
            have HNO := Lib.hid (show ¬ Good L from fun hG => by have := (HN.out.1 (fore_of_good hG (by omega))).2; rw [HLQ.out] at this; omega)
            go_wp2
            refine wp_region_below (B := wr.heap.size) (w0 := wr) (by kernel_rfl) (by kernel_rfl) (Below.refl _ _) ?_
            go_big_quiet_want; go_big_quiet_op; go_big_quiet_on
            go_big_quiet_want; go_big_quiet_op; go_big_quiet_on
            go_big_quiet_want; apply quiet_value; (· (intro w hw; go_simp; try rfl)); simp only [Act.put, List.setIfInBounds_toArray, List.set_cons_succ, List.set_cons_zero]; go_big_quiet_on
            go_big_quiet_want; apply quiet_value; (· (intro w hw; have d0 := (hw.cell (p := ⟨g, off + k * 3, none⟩) hg).trans D.out.1; have d1 := (hw.cell (p := ⟨g, off + k * 3 + 1, none⟩) hg).trans D.out.2.1; have d2 := (hw.cell (p := ⟨g, off + k * 3 + 2, none⟩) hg).trans D.out.2.2; go_simp; try rfl)); simp only [Act.put, List.setIfInBounds_toArray, List.set_cons_succ, List.set_cons_zero]; go_big_quiet_on
            go_big_quiet_want; apply quiet_call (f := 36); (· (intro w hw; go_simp; try rfl)); (· (exact fun w hw => in_below ((hr ▸ rright_any p w)) hw (Nat.le_refl _))); simp only [Act.put, List.setIfInBounds_toArray, List.set_cons_succ, List.set_cons_zero]; go_big_quiet_on
            go_big_quiet_want; apply quiet_value; (· (intro w hw; go_simp; try rfl)); simp only [Act.put, List.setIfInBounds_toArray, List.set_cons_succ, List.set_cons_zero]; go_big_quiet_on
            go_big_quiet_want; go_big_quiet_op; go_big_quiet_on
            go_big_quiet_want; go_big_quiet_op; go_big_quiet_on
            go_big_quiet_want; apply quiet_value; (· (intro w hw; go_simp; try rfl)); simp only [Act.put, List.setIfInBounds_toArray, List.set_cons_succ, List.set_cons_zero]; go_big_quiet_on
            go_big_quiet_want; go_big_quiet_op; go_big_quiet_on
            go_big_quiet_want; go_big_quiet_op; go_big_quiet_on
            go_big_quiet_want; go_big_quiet_op; go_big_quiet_on
            go_big_quiet_want; apply quiet_value; (· (intro w hw; go_simp; try rfl)); simp only [Act.put, List.setIfInBounds_toArray, List.set_cons_succ, List.set_cons_zero]; go_big_quiet_on
            go_big_quiet_want; apply quiet_value; (· (intro w hw; go_simp; try rfl)); simp only [Act.put, List.setIfInBounds_toArray, List.set_cons_succ, List.set_cons_zero]; go_big_quiet_on
            go_big_quiet_want; apply quiet_value; (· (intro w hw; have d0 := (hw.cell (p := ⟨g, off + k * 3, none⟩) hg).trans D.out.1; have d1 := (hw.cell (p := ⟨g, off + k * 3 + 1, none⟩) hg).trans D.out.2.1; have d2 := (hw.cell (p := ⟨g, off + k * 3 + 2, none⟩) hg).trans D.out.2.2; go_simp; try rfl)); simp only [Act.put, List.setIfInBounds_toArray, List.set_cons_succ, List.set_cons_zero]; go_big_quiet_on
            go_big_quiet_want; go_big_quiet_op; go_big_quiet_on
            go_big_quiet_want; go_big_quiet_op; go_big_quiet_on
            go_big_quiet_want; apply quiet_value; (· (intro w hw; go_simp; try rfl)); simp only [Act.put, List.setIfInBounds_toArray, List.set_cons_succ, List.set_cons_zero]; go_big_quiet_on
            go_big_quiet_want; apply quiet_value; (· (intro w hw; go_simp; try rfl)); simp only [Act.put, List.setIfInBounds_toArray, List.set_cons_succ, List.set_cons_zero]; go_big_quiet_on
            go_big_quiet_want; apply quiet_value; (· (intro w hw; go_simp; try rfl)); simp only [Act.put, List.setIfInBounds_toArray, List.set_cons_succ, List.set_cons_zero]; go_big_quiet_on
            go_big_quiet_want; apply quiet_value; (· (intro w hw; have d3 := (hw.cell (p := ⟨g, off + (k - 1) * 3, none⟩) hg).trans DP.out; go_simp; try rfl)); simp only [Act.put, List.setIfInBounds_toArray, List.set_cons_succ, List.set_cons_zero]; go_big_quiet_on
            go_big_quiet_want; apply quiet_value; (· (intro w hw; go_simp; try rfl)); simp only [Act.put, List.setIfInBounds_toArray, List.set_cons_succ, List.set_cons_zero]; go_big_quiet_on
            go_big_quiet_want; apply quiet_value; (· (intro w hw; go_simp; try rfl)); simp only [Act.put, List.setIfInBounds_toArray, List.set_cons_succ, List.set_cons_zero]; go_big_quiet_on
            go_big_quiet_want; apply quiet_value; (· (intro w hw; go_simp; try rfl)); simp only [Act.put, List.setIfInBounds_toArray, List.set_cons_succ, List.set_cons_zero]; go_big_quiet_on
            refine wpQuiet_nil ?_
            intro w2 hb2
            have HB2 := Lib.hid (HB.out.trans (hb2.mono HB.out.size))
            clear hb2
            go_wp2
            go_ret
            exact ⟨.inr ⟨HNO.out, rfl⟩, HB2.out⟩
          · have hle' : decide (p.1 ≤ q.1) = false := by simpa using hle
            have HS := Lib.hid (show Fore L (k + 1) from HN.out.2 ⟨hr, by rw [HLQ.out]; omega⟩)
            go_wp2
            refine wp_region_below (B := wr.heap.size) (w0 := wr) (by kernel_rfl) (by kernel_rfl) (Below.refl _ _) ?_
            go_big_quiet_want; go_big_quiet_op; go_big_quiet_on
            go_big_quiet_want; go_big_quiet_op; go_big_quiet_on
            go_big_quiet_want; apply quiet_value; (· (intro w hw; go_simp; try rfl)); simp only [Act.put, List.setIfInBounds_toArray, List.set_cons_succ, List.set_cons_zero]; go_big_quiet_on
            go_big_quiet_want; apply quiet_value; (· (intro w hw; have d0 := (hw.cell (p := ⟨g, off + k * 3, none⟩) hg).trans D.out.1; have d1 := (hw.cell (p := ⟨g, off + k * 3 + 1, none⟩) hg).trans D.out.2.1; have d2 := (hw.cell (p := ⟨g, off + k * 3 + 2, none⟩) hg).trans D.out.2.2; go_simp; try rfl)); simp only [Act.put, List.setIfInBounds_toArray, List.set_cons_succ, List.set_cons_zero]; go_big_quiet_on
            go_big_quiet_want; apply quiet_call (f := 36); (· (intro w hw; go_simp; try rfl)); (· (exact fun w hw => in_below ((hr ▸ rright_any p w)) hw (Nat.le_refl _))); simp only [Act.put, List.setIfInBounds_toArray, List.set_cons_succ, List.set_cons_zero]; go_big_quiet_on
            go_big_quiet_want; apply quiet_value; (· (intro w hw; go_simp; try rfl)); simp only [Act.put, List.setIfInBounds_toArray, List.set_cons_succ, List.set_cons_zero]; go_big_quiet_on
            go_big_quiet_want; go_big_quiet_op; go_big_quiet_on
            go_big_quiet_want; go_big_quiet_op; go_big_quiet_on
            go_big_quiet_want; apply quiet_value; (· (intro w hw; go_simp; try rfl)); simp only [Act.put, List.setIfInBounds_toArray, List.set_cons_succ, List.set_cons_zero]; go_big_quiet_on
            go_big_quiet_want; go_big_quiet_op; go_big_quiet_on
            go_big_quiet_want; go_big_quiet_op; go_big_quiet_on
            go_big_quiet_want; go_big_quiet_op; go_big_quiet_on
            go_big_quiet_want; apply quiet_value; (· (intro w hw; go_simp; try rfl)); simp only [Act.put, List.setIfInBounds_toArray, List.set_cons_succ, List.set_cons_zero]; go_big_quiet_on
            go_big_quiet_want; apply quiet_value; (· (intro w hw; go_simp; try rfl)); simp only [Act.put, List.setIfInBounds_toArray, List.set_cons_succ, List.set_cons_zero]; go_big_quiet_on
            go_big_quiet_want; apply quiet_value; (· (intro w hw; have d0 := (hw.cell (p := ⟨g, off + k * 3, none⟩) hg).trans D.out.1; have d1 := (hw.cell (p := ⟨g, off + k * 3 + 1, none⟩) hg).trans D.out.2.1; have d2 := (hw.cell (p := ⟨g, off + k * 3 + 2, none⟩) hg).trans D.out.2.2; go_simp; try rfl)); simp only [Act.put, List.setIfInBounds_toArray, List.set_cons_succ, List.set_cons_zero]; go_big_quiet_on
            go_big_quiet_want; go_big_quiet_op; go_big_quiet_on
            go_big_quiet_want; go_big_quiet_op; go_big_quiet_on
            go_big_quiet_want; apply quiet_value; (· (intro w hw; go_simp; try rfl)); simp only [Act.put, List.setIfInBounds_toArray, List.set_cons_succ, List.set_cons_zero]; go_big_quiet_on
            go_big_quiet_want; apply quiet_value; (· (intro w hw; go_simp; try rfl)); simp only [Act.put, List.setIfInBounds_toArray, List.set_cons_succ, List.set_cons_zero]; go_big_quiet_on
            go_big_quiet_want; apply quiet_value; (· (intro w hw; go_simp; try rfl)); simp only [Act.put, List.setIfInBounds_toArray, List.set_cons_succ, List.set_cons_zero]; go_big_quiet_on
            go_big_quiet_want; apply quiet_value; (· (intro w hw; have d3 := (hw.cell (p := ⟨g, off + (k - 1) * 3, none⟩) hg).trans DP.out; go_simp; try rfl)); simp only [Act.put, List.setIfInBounds_toArray, List.set_cons_succ, List.set_cons_zero]; go_big_quiet_on
            go_big_quiet_want; apply quiet_value; (· (intro w hw; go_simp; try rfl)); simp only [Act.put, List.setIfInBounds_toArray, List.set_cons_succ, List.set_cons_zero]; go_big_quiet_on
            go_big_quiet_want; apply quiet_value; (· (intro w hw; go_simp; try rfl)); simp only [Act.put, List.setIfInBounds_toArray, List.set_cons_succ, List.set_cons_zero]; go_big_quiet_on
            go_big_quiet_want; apply quiet_value; (· (intro w hw; go_simp; try rfl)); simp only [Act.put, List.setIfInBounds_toArray, List.set_cons_succ, List.set_cons_zero]; go_big_quiet_on
            refine wpQuiet_nil ?_
            intro w2 hb2
            have HB2 := Lib.hid (HB.out.trans (hb2.mono HB.out.size))
            clear hb2 hw1 hn1
            go_wp2
            go_roundw
            case rel => exact ⟨k + 1, by omega, by go_num, HS.out, HB2.out⟩
            case measure => simp [intOf]; omega
    · obtain rfl : k = L.length := by omega
      by_cases h100 : 100 < L.length
      · have HNO := Lib.hid (show ¬ Good L from fun hG => by have := hG.many; omega)
        go_wp2
        go_ret
        exact ⟨.inr ⟨HNO.out, rfl⟩, HB.out⟩
      · have HY := Lib.hid (fore_good HF.out (by omega))
        go_wp2
        go_ret
        exact ⟨.inl ⟨HY.out, rfl⟩, HB.out⟩

/-- what Load hands back. -/
def Loaded (L : List Lz) (w : World) (e : Ending) (w' : World) : Prop :=
  (Good L ∧ ∃ n v, e = .returned (.tuple #[.pointer (some ⟨n, 0, none⟩), .int .i64 0]) ∧ Tab w' w.heap.size n v L ∧ Below w.heap.size w w') ∨
  (¬ Good L ∧ e = .returned (.tuple #[.pointer none, .int .i64 1]) ∧ Below w.heap.size w w')
set_option maxRecDepth 100000 in
set_option maxHeartbeats 4000000 in
theorem load_any (ad : Option Addr) (c : Nat) (h : w.ownsRow base 37 3 (.slice ad L.length c) L.length (cellsOf L)) (hl : L.length ≤ 1000) :
    Calls Try.prog 24 #[.slice ad L.length c] w (Loaded L w) := by
  have HO := Lib.hid h
  have HX0 := Lib.hid (Box.new w 37 #[.int .i64 0, .int .i64 0, .int .i64 0])
  have B0 := Lib.hid ((Below.refl w.heap.size w).alloc (Nat.le_refl _) (.cells #[.int .i64 0, .int .i64 0, .int .i64 0] 37))
  clear h
  go_enter Try.func24, Try.ntmps24
  go_wp2
  go_loopw [10] (fun i wr => ∃ k : Nat, k ≤ L.length ∧ i = .int .i64 k ∧ Fore L k ∧ Below w.heap.size w wr ∧ Box wr w.heap.size 37 #[.int .i64 (lastL L k).1, .int .i64 (lastL L k).2.1, .int .i64 (lastL L k).2.2]) (fun i _ => L.length - (intOf i).toNat)
  case atStart => exact ⟨0, Nat.zero_le _, rfl, fore_zero L, B0.out, HX0.out⟩
  case round =>
    obtain ⟨k, hk, rfl, hF, hbel, hx⟩ := hrel
    have HF := Lib.hid hF
    have HB := Lib.hid hbel
    obtain ⟨q, hq⟩ : ∃ q, q = lastL L k := ⟨_, rfl⟩
    rw [← hq] at hx
    have HX := Lib.hid hx
    have x0 : wr.cell? ⟨w.heap.size, 0, none⟩ = some (.int .i64 q.1) := hx.cell 0
    have x1 : wr.cell? ⟨w.heap.size, 1, none⟩ = some (.int .i64 q.2.1) := hx.cell 1
    have x2 : wr.cell? ⟨w.heap.size, 2, none⟩ = some (.int .i64 q.2.2) := hx.cell 2
    have hwl := hx.lt
    have HSW : Hid (wr.heap.size ≠ w.heap.size) := by show _ ≠ _; omega
    have HROW := Lib.hid (own_stays HO.out (fun g hv => HB.out.block g (own_lt HO.out g hv)))
    clear hF hbel hx
    by_cases hlt : k < L.length
    · obtain ⟨p, hp⟩ : ∃ p, L[k]? = some p := ⟨_, List.getElem?_eq_getElem hlt⟩
      obtain ⟨g, cap, hge, hg, d0, d1, d2⟩ := own_cells HROW.out k p hp
      obtain ⟨rfl, rfl⟩ : ad = some ⟨g, 0, none⟩ ∧ c = cap := by simpa using hge
      have HN := Lib.hid (fore_next HF.out hp)
      have HLN := Lib.hid (show lastL L (k + 1) = p by unfold lastL; rw [if_neg (by omega), Nat.add_sub_cancel, hp]; rfl)
      have HQ := Lib.hid hq
      have HW1 := Lib.hid ((Below.refl wr.heap.size wr).alloc (Nat.le_refl _) (.cells #[.int .i64 p.1, .int .i64 p.2.1, .int .i64 p.2.2] 37))
      have HXP := Lib.hid (Box.new wr 37 #[.int .i64 p.1, .int .i64 p.2.1, .int .i64 p.2.2])
      have CR := Lib.hid (right_any p (wr.alloc (.cells #[.int .i64 p.1, .int .i64 p.2.1, .int .i64 p.2.2] 37)))
      unfold tv at CR
      clear hp hge hq
      cases hr : rightB p
      · rw [hr] at CR
        have HNO := Lib.hid (show ¬ Good L from fun hG => by have := (HN.out.1 (fore_of_good hG (by omega))).1; rw [hr] at this; cases this)
        go_wp2_with fail
        refine CR.out.mono ?_
        rintro e w2 ⟨rfl, hb2⟩
        have HB2 := Lib.hid (HB.out.trans ((HW1.out.trans (hb2.mono HW1.out.size)).mono HB.out.size))
        clear hb2 x0 x1 x2 d0 d1 d2
        go_wp2
        exact ret_two rfl rfl rfl rfl (.inr ⟨HNO.out, rfl, HB2.out⟩)
      · rw [hr] at CR
        go_wp2_with fail
        refine CR.out.mono ?_
        rintro e w2 ⟨rfl, hb2⟩
        have HB2 := Lib.hid (HB.out.trans ((HW1.out.trans (hb2.mono HW1.out.size)).mono HB.out.size))
        have HXP2 := Lib.hid (HXP.out.below hb2 HXP.out.lt)
        have HXQ2 := Lib.hid ((HX.out.alloc (.cells #[.int .i64 p.1, .int .i64 p.2.1, .int .i64 p.2.2] 37)).below hb2 (by have := HX.out.lt; simp; omega))
        have y0 : w2.cell? ⟨wr.heap.size, 0, none⟩ = some (.int .i64 p.1) := HXP2.out.cell 0
        have y1 : w2.cell? ⟨wr.heap.size, 1, none⟩ = some (.int .i64 p.2.1) := HXP2.out.cell 1
        have y2 : w2.cell? ⟨wr.heap.size, 2, none⟩ = some (.int .i64 p.2.2) := HXP2.out.cell 2
        have z0 : w2.cell? ⟨w.heap.size, 0, none⟩ = some (.int .i64 q.1) := HXQ2.out.cell 0
        have z1 : w2.cell? ⟨w.heap.size, 1, none⟩ = some (.int .i64 q.2.1) := HXQ2.out.cell 1
        have z2 : w2.cell? ⟨w.heap.size, 2, none⟩ = some (.int .i64 q.2.2) := HXQ2.out.cell 2
        have f0 : w2.frozen? ⟨w.heap.size, 0, none⟩ = false := HXQ2.out.frozen 0
        have f1 : w2.frozen? ⟨w.heap.size, 1, none⟩ = false := HXQ2.out.frozen 1
        have f2 : w2.frozen? ⟨w.heap.size, 2, none⟩ = false := HXQ2.out.frozen 2
        clear hb2 x0 x1 x2 d0 d1 d2
        by_cases hle : p.1 ≤ q.1
        · have HNO := Lib.hid (show ¬ Good L from fun hG => by have := (HN.out.1 (fore_of_good hG (by omega))).2; rw [← HQ.out] at this; omega)
          go_wp2
          all_goals exact ret_two rfl rfl rfl rfl (.inr ⟨HNO.out, rfl, HB2.out⟩)
        · have hne : (p.1 == q.1) = false := by simp; omega
          have HS := Lib.hid (show Fore L (k + 1) from HN.out.2 ⟨hr, by rw [← HQ.out]; omega⟩)
          go_wp2
          go_roundw
          case rel =>
            refine ⟨k + 1, by omega, by go_num, HS.out, ?_, ?_⟩
            · exact ((HB2.out.setCell (p := ⟨w.heap.size, 0, none⟩) (Nat.le_refl _) _).setCell (p := ⟨w.heap.size, 1, none⟩) (Nat.le_refl _) _).setCell (p := ⟨w.heap.size, 2, none⟩) (Nat.le_refl _) _
            · rw [HLN.out]; exact ((HXQ2.out.set 0 _).set 1 _).set 2 _
          case measure => simp [intOf]; omega
    · obtain rfl : k = L.length := by omega
      clear hq x0 x1 x2
      by_cases h100 : 100 < L.length
      · have HNO := Lib.hid (show ¬ Good L from fun hG => by have := hG.many; omega)
        go_wp2
        exact ret_two rfl rfl rfl rfl (.inr ⟨HNO.out, rfl, HB.out⟩)
      · have HY := Lib.hid (fore_good HF.out (by omega))
        have C1 := Lib.hid (clone_row ad c HROW.out hl)
        go_wp2_with fail
        refine C1.out.mono ?_
        rintro e w1 ⟨v1, rfl, own1, b1⟩
        obtain ⟨ad1, c1, rfl, _⟩ := own_shape own1
        have HO1 := Lib.hid own1
        have HB1 := Lib.hid b1
        have HT1 := Lib.hid (HB.out.trans (b1.mono HB.out.size))
        clear own1 b1 C1
        go_wp2
        exact ret_two rfl rfl rfl rfl (.inl ⟨HY.out, _, _, rfl, ⟨Box.new w1 56 #[_], own_base (own_stays HO1.out (fun k hk => Below.heap_alloc w1 _ k (own_lt HO1.out k hk))) (fun k hk => Nat.le_trans HB.out.size (own_ge HO1.out k hk)), HT1.out.size⟩, HT1.out.alloc HT1.out.size _⟩)
end Go.Proofs.Ytkgnooogppkieaa
