/- watcher: SameEvents; whether two rows of watches are the same. Conditions: the rows are the call's own. -/
import Derived.Test.YtmcjpochpmiipaaDoorVk
namespace Go.Proofs.YtmcjpochpmiipaaDoor
open Go Go.RowKit Zn
set_option linter.unusedVariables false
set_option linter.unusedSimpArgs false
variable {w w' : World} {base n : Nat} {v : Value} {L : List Wt}

theorem nee_end {p x : Ev} {q : Bool} (hq : (!decide (p = x)) = q) (w' : World) : (if p.1 = x.1 then if p.2.1 = x.2.1 then if p.2.2.toList = x.2.2.toList then Result.ok (Next.value (Value.bool false)) w' else Result.ok (Next.value (Value.bool true)) w' else Result.ok (Next.value (Value.bool true)) w' else Result.ok (Next.value (Value.bool true)) w') = Result.ok (Next.value (Value.bool q)) w' := by
  subst hq
  obtain ⟨a, s, k⟩ := p
  obtain ⟨b, t, m⟩ := x
  simp only [Prod.mk.injEq]
  by_cases h1 : a = b
  · by_cases h2 : s = t
    · by_cases h3 : k = m
      · simp [h1, h2, h3]
      · have h4 : ¬ k.toList = m.toList := fun e => h3 (str_eq e)
        simp [h1, h2, h3, h4]
    · simp [h1, h2]
  · simp [h1]
theorem new_end {p x : Wt} {q : Bool} (hq : (!decide (p = x)) = q) (w' : World) : (if p.1 = x.1 then if p.2.1.toList = x.2.1.toList then if p.2.2 = x.2.2 then Result.ok (Next.value (Value.bool false)) w' else Result.ok (Next.value (Value.bool true)) w' else Result.ok (Next.value (Value.bool true)) w' else Result.ok (Next.value (Value.bool true)) w') = Result.ok (Next.value (Value.bool q)) w' := by
  subst hq
  obtain ⟨a, s, k⟩ := p
  obtain ⟨b, t, m⟩ := x
  simp only [Prod.mk.injEq]
  by_cases h1 : a = b
  · by_cases h2 : s = t
    · by_cases h3 : k = m
      · simp [h1, h2, h3]
      · simp [h1, h2, h3]
    · have h4 : ¬ s.toList = t.toList := fun e => h2 (str_eq e)
      simp [h1, h2, h4]
  · simp [h1]
set_option maxHeartbeats 1000000 in
theorem sameEv_any {wi : World} {ba bb : Nat} {A B : List Ev} (ad bd : Option Addr) (c d : Nat) (ha : wi.ownsRow ba 36 3 (.slice ad A.length c) A.length (eCells A)) (hb : wi.ownsRow bb 36 3 (.slice bd B.length d) B.length (eCells B)) (hl : A.length ≤ 1000) :
    Calls Tryd.prog 17 #[.slice ad A.length c, .slice bd B.length d] wi fun e w' => ∃ b, e = .returned (.bool b) ∧ (A = B → b = true) ∧ Below wi.heap.size wi w' := by
  have HA := Lib.hid ha
  have HB := Lib.hid hb
  clear ha hb
  by_cases hlen : A.length = B.length
  rotate_left
  · have hn : ((A.length : Int) != (B.length : Int)) = true := by simp; omega
    go_enter Tryd.func17, Tryd.ntmps17
    go_wp2
    go_ret
    exact ⟨false, rfl, fun e => absurd (congrArg List.length e) hlen, Below.refl _ _⟩
  have hn : ((A.length : Int) != (B.length : Int)) = false := by simp; omega
  go_enter Tryd.func17, Tryd.ntmps17
  go_wp2
  go_loopw [5] (fun i wr => ∃ k : Nat, k ≤ A.length ∧ i = .int .i64 k ∧ Below wi.heap.size wi wr) (fun i _ => A.length - (intOf i).toNat)
  case atStart => exact ⟨0, Nat.zero_le _, rfl, Below.refl _ _⟩
  case round =>
    obtain ⟨k, hk, rfl, hbel⟩ := hrel
    have HW := Lib.hid hbel
    have HAr := Lib.hid (own_below HA.out hbel (Nat.le_refl _))
    have HBr := Lib.hid (own_below HB.out hbel (Nat.le_refl _))
    clear hbel
    by_cases hlt : k < A.length
    · obtain ⟨p, hp⟩ : ∃ p, A[k]? = some p := ⟨_, List.getElem?_eq_getElem hlt⟩
      obtain ⟨r, hr⟩ : ∃ r, B[k]? = some r := ⟨_, List.getElem?_eq_getElem (by omega)⟩
      obtain ⟨g, cap, he, hg, _⟩ := eown_cells HAr.out k p hp
      obtain ⟨g2, cap2, he2, hg2, _⟩ := eown_cells HBr.out k r hr
      obtain ⟨rfl, rfl⟩ : ad = some ⟨g, 0, none⟩ ∧ c = cap := by simpa using he
      obtain ⟨rfl, rfl⟩ : bd = some ⟨g2, 0, none⟩ ∧ d = cap2 := by simpa using he2
      have HP := Lib.hid hp
      have HR := Lib.hid hr
      have hlt2 : k < B.length := by omega
      obtain ⟨q, hq⟩ : ∃ q, (!decide (p = r)) = q := ⟨_, rfl⟩
      have HQ := Lib.hid hq
      clear he he2 hp hr hg hg2 hq
      go_wp2
      refine wp_region_below (w0 := wr) (B := wr.heap.size) (by kernel_rfl) (by kernel_rfl) (Below.refl _ _) ?_
      go_big_quiet_want; go_big_quiet_op; go_big_quiet_on
      go_big_quiet_want; go_big_quiet_op; go_big_quiet_on
      go_big_quiet_want; apply quiet_value; (· (intro w hw; go_simp; try rfl)); simp only [Act.put, List.setIfInBounds_toArray, List.set_cons_succ, List.set_cons_zero]; go_big_quiet_on
      go_big_quiet_want; apply quiet_value; (· (intro w hw; obtain ⟨c0, c1, c2⟩ := eown_at (own_below HAr.out hw (Nat.le_refl _)) k p HP.out; go_simp; try rfl)); simp only [Act.put, List.setIfInBounds_toArray, List.set_cons_succ, List.set_cons_zero]; go_big_quiet_on
      go_big_quiet_want; go_big_quiet_op; go_big_quiet_on
      go_big_quiet_want; go_big_quiet_op; go_big_quiet_on
      go_big_quiet_want; apply quiet_value; (· (intro w hw; go_simp; try rfl)); simp only [Act.put, List.setIfInBounds_toArray, List.set_cons_succ, List.set_cons_zero]; go_big_quiet_on
      go_big_quiet_want; apply quiet_value; (· (intro w hw; obtain ⟨z0, z1, z2⟩ := eown_at (own_below HBr.out hw (Nat.le_refl _)) k r HR.out; go_simp; try rfl)); simp only [Act.put, List.setIfInBounds_toArray, List.set_cons_succ, List.set_cons_zero]; go_big_quiet_on
      go_big_quiet_want; apply quiet_value (v := .bool q); (· (intro w hw; go_simp; exact nee_end HQ.out w)); simp only [Act.put, List.setIfInBounds_toArray, List.set_cons_succ, List.set_cons_zero]; go_big_quiet_on
      refine wpQuiet_nil ?_
      intro w3 b3
      have HW3 := Lib.hid (HW.out.trans (b3.mono HW.out.size))
      clear b3
      cases q
      · go_wp2
        go_roundw
        case rel => exact ⟨k + 1, by omega, by go_num, HW3.out⟩
        case measure => simp [intOf]; omega
      · go_wp2
        go_ret
        refine ⟨false, rfl, fun e => ?_, HW3.out⟩
        have h1 := HP.out
        rw [e, HR.out] at h1
        have h2 := HQ.out
        rw [Option.some.inj h1] at h2
        simp at h2
    · go_wp2
      go_ret
      exact ⟨true, rfl, fun _ => rfl, HW.out⟩
set_option maxHeartbeats 1000000 in
theorem sameW_any {wi : World} {ba bb : Nat} {A B : List Wt} (ad bd : Option Addr) (c d : Nat) (ha : wi.ownsRow ba 31 3 (.slice ad A.length c) A.length (cellsOf A)) (hb : wi.ownsRow bb 29 3 (.slice bd B.length d) B.length (cellsOf B)) (hl : A.length ≤ 1000) :
    Calls Tryd.prog 19 #[.slice ad A.length c, .slice bd B.length d] wi fun e w' => ∃ b, e = .returned (.bool b) ∧ (A = B → b = true) ∧ Below wi.heap.size wi w' := by
  have HA := Lib.hid ha
  have HB := Lib.hid hb
  clear ha hb
  by_cases hlen : A.length = B.length
  rotate_left
  · have hn : ((A.length : Int) != (B.length : Int)) = true := by simp; omega
    go_enter Tryd.func19, Tryd.ntmps19
    go_wp2
    go_ret
    exact ⟨false, rfl, fun e => absurd (congrArg List.length e) hlen, Below.refl _ _⟩
  have hn : ((A.length : Int) != (B.length : Int)) = false := by simp; omega
  go_enter Tryd.func19, Tryd.ntmps19
  go_wp2
  go_loopw [13] (fun i wr => ∃ k : Nat, k ≤ A.length ∧ i = .int .i64 k ∧ Below wi.heap.size wi wr) (fun i _ => A.length - (intOf i).toNat)
  case atStart => exact ⟨0, Nat.zero_le _, rfl, Below.refl _ _⟩
  case round =>
    obtain ⟨k, hk, rfl, hbel⟩ := hrel
    have HW := Lib.hid hbel
    have HAr := Lib.hid (own_below HA.out hbel (Nat.le_refl _))
    have HBr := Lib.hid (own_below HB.out hbel (Nat.le_refl _))
    clear hbel
    by_cases hlt : k < A.length
    · obtain ⟨p, hp⟩ : ∃ p, A[k]? = some p := ⟨_, List.getElem?_eq_getElem hlt⟩
      obtain ⟨r, hr⟩ : ∃ r, B[k]? = some r := ⟨_, List.getElem?_eq_getElem (by omega)⟩
      obtain ⟨g, cap, he, hg, _⟩ := own_cells HAr.out k p hp
      obtain ⟨g2, cap2, he2, hg2, _⟩ := own_cells HBr.out k r hr
      obtain ⟨rfl, rfl⟩ : ad = some ⟨g, 0, none⟩ ∧ c = cap := by simpa using he
      obtain ⟨rfl, rfl⟩ : bd = some ⟨g2, 0, none⟩ ∧ d = cap2 := by simpa using he2
      have HP := Lib.hid hp
      have HR := Lib.hid hr
      have hlt2 : k < B.length := by omega
      obtain ⟨q, hq⟩ : ∃ q, (!decide (p = r)) = q := ⟨_, rfl⟩
      have HQ := Lib.hid hq
      clear he he2 hp hr hg hg2 hq
      go_wp2
      refine wp_region_below (w0 := wr) (B := wr.heap.size) (by kernel_rfl) (by kernel_rfl) (Below.refl _ _) ?_
      go_big_quiet_want; go_big_quiet_op; go_big_quiet_on
      go_big_quiet_want; go_big_quiet_op; go_big_quiet_on
      go_big_quiet_want; apply quiet_value; (· (intro w hw; go_simp; try rfl)); simp only [Act.put, List.setIfInBounds_toArray, List.set_cons_succ, List.set_cons_zero]; go_big_quiet_on
      go_big_quiet_want; apply quiet_value; (· (intro w hw; obtain ⟨c0, c1, c2⟩ := own_at (own_below HAr.out hw (Nat.le_refl _)) k p HP.out; go_simp; try rfl)); simp only [Act.put, List.setIfInBounds_toArray, List.set_cons_succ, List.set_cons_zero]; go_big_quiet_on
      go_big_quiet_want; go_big_quiet_op; go_big_quiet_on
      go_big_quiet_want; go_big_quiet_op; go_big_quiet_on
      go_big_quiet_want; apply quiet_value; (· (intro w hw; go_simp; try rfl)); simp only [Act.put, List.setIfInBounds_toArray, List.set_cons_succ, List.set_cons_zero]; go_big_quiet_on
      go_big_quiet_want; apply quiet_value; (· (intro w hw; obtain ⟨z0, z1, z2⟩ := own_at (own_below HBr.out hw (Nat.le_refl _)) k r HR.out; go_simp; try rfl)); simp only [Act.put, List.setIfInBounds_toArray, List.set_cons_succ, List.set_cons_zero]; go_big_quiet_on
      go_big_quiet_want; apply quiet_value (v := .bool q); (· (intro w hw; go_simp; exact new_end HQ.out w)); simp only [Act.put, List.setIfInBounds_toArray, List.set_cons_succ, List.set_cons_zero]; go_big_quiet_on
      refine wpQuiet_nil ?_
      intro w3 b3
      have HW3 := Lib.hid (HW.out.trans (b3.mono HW.out.size))
      clear b3
      cases q
      · go_wp2
        go_roundw
        case rel => exact ⟨k + 1, by omega, by go_num, HW3.out⟩
        case measure => simp [intOf]; omega
      · go_wp2
        go_ret
        refine ⟨false, rfl, fun e => ?_, HW3.out⟩
        have h1 := HP.out
        rw [e, HR.out] at h1
        have h2 := HQ.out
        rw [Option.some.inj h1] at h2
        simp at h2
    · go_wp2
      go_ret
      exact ⟨true, rfl, fun _ => rfl, HW.out⟩
end Go.Proofs.YtmcjpochpmiipaaDoor
