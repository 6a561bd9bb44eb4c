/- chart: the next view of a winner, the code's and the document's (chapter 14's proofs over this seat). Conditions: none. -/
import Derived.Test.YtbkjhogfpcmcbaaDoorKc
namespace Go.Proofs.YtbkjhogfpcmcbaaDoor
open Go Go.RowKit Zn
set_option linter.unusedVariables false
set_option linter.unusedSimpArgs false
variable {w w' : World}
theorem group_any (m : Int) (w : World) : Calls Tryd.prog 81 #[.int .i64 m] w fun e w' => e = .returned (.bool (decide (1 ≤ m ∧ m ≤ 7))) ∧ w = w' := by
  by_cases h : 1 ≤ m ∧ m ≤ 7
  · have hd : decide (1 ≤ m ∧ m ≤ 7) = true := by simpa using h
    rw [hd]
    obtain ⟨h1, h2⟩ := h
    clear hd
    go_enter Tryd.func81, Tryd.ntmps81
    go_wp2
    go_ret
    exact ⟨rfl, rfl⟩
  · have hd : decide (1 ≤ m ∧ m ≤ 7) = false := by simpa using h
    rw [hd]
    clear hd
    by_cases h1 : 1 ≤ m
    · have h2 : ¬ m ≤ 7 := fun h2 => h ⟨h1, h2⟩
      clear h
      go_enter Tryd.func81, Tryd.ntmps81
      go_wp2
      go_ret
      exact ⟨rfl, rfl⟩
    · clear h
      go_enter Tryd.func81, Tryd.ntmps81
      go_wp2
      go_ret
      exact ⟨rfl, rfl⟩

/-- who leads a view; -1: none. -/
def pr (v m : Int) : Int := if (1 ≤ m ∧ m ≤ 7) ∧ 0 ≤ v ∧ v ≤ 4611686018427387904 then v % m else -1
/-- how many views on somebody leads. -/
def moreOf (v self m : Int) : Int := if (self - v % m + m) % m = 0 then m else (self - v % m + m) % m
/-- the next view of somebody, and whether there is one. -/
def nextOf (v self m : Int) : Int × Bool :=
  if (1 ≤ m ∧ m ≤ 7) ∧ (0 ≤ v ∧ v ≤ 4611686018427387904) ∧ 0 ≤ self ∧ self < m then
    if v + moreOf v self m ≤ 4611686018427387904 then (v + moreOf v self m, true) else (0, false)
  else (0, false)

theorem seven {m : Int} (h1 : 1 ≤ m) (h2 : m ≤ 7) : m = 1 ∨ m = 2 ∨ m = 3 ∨ m = 4 ∨ m = 5 ∨ m = 6 ∨ m = 7 := by omega
theorem more_facts {v self m : Int} (h1 : 1 ≤ m) (h2 : m ≤ 7) (_h3 : 0 ≤ v) (h4 : 0 ≤ self) (h5 : self < m) :
    1 ≤ moreOf v self m ∧ moreOf v self m ≤ 7 ∧ (v + moreOf v self m) % m = self ∧ ∀ d : Int, 1 ≤ d → d < moreOf v self m → (v + d) % m ≠ self := by
  unfold moreOf
  rcases seven h1 h2 with rfl | rfl | rfl | rfl | rfl | rfl | rfl <;> (split <;> refine ⟨by omega, by omega, by omega, fun d hd1 hd2 => by omega⟩)

theorem primary_any (v m : Int) (w : World) : Calls Tryd.prog 74 #[.int .i64 v, .int .i64 m] w fun e w' => e = .returned (.int .i64 (pr v m)) ∧ w = w' := by
  have G := Lib.hid (group_any m w)
  by_cases h : 1 ≤ m ∧ m ≤ 7
  · rw [show decide (1 ≤ m ∧ m ≤ 7) = true by simpa using h] at G
    by_cases h1 : v < 0
    · have HP : Hid (pr v m = -1) := show pr v m = -1 by unfold pr; rw [if_neg (by omega)]
      clear h
      go_enter Tryd.func74, Tryd.ntmps74
      go_wp2_with (go_at_call 81; refine G.out.mono ?_; rintro e w' ⟨rfl, rfl⟩)
      go_ret
      exact ⟨by rw [HP.out]; rfl, rfl⟩
    · by_cases h2 : v > 4611686018427387904
      · have HP : Hid (pr v m = -1) := show pr v m = -1 by unfold pr; rw [if_neg (by omega)]
        clear h
        go_enter Tryd.func74, Tryd.ntmps74
        go_wp2_with (go_at_call 81; refine G.out.mono ?_; rintro e w' ⟨rfl, rfl⟩)
        go_ret
        exact ⟨by rw [HP.out]; rfl, rfl⟩
      · have HP : Hid (pr v m = v % m) := show pr v m = v % m by unfold pr; rw [if_pos (by omega)]
        obtain ⟨m1, m2⟩ := h
        have h3 : 0 ≤ v := by omega
        have h4 : v ≤ 4611686018427387904 := by omega
        have h5 : ¬ m = 0 := by omega
        clear h1 h2
        go_enter Tryd.func74, Tryd.ntmps74
        go_wp2_with (go_at_call 81; refine G.out.mono ?_; rintro e w' ⟨rfl, rfl⟩)
        go_ret
        exact ⟨by rw [HP.out]; rfl, rfl⟩
  · rw [show decide (1 ≤ m ∧ m ≤ 7) = false by simpa using h] at G
    have HP : Hid (pr v m = -1) := show pr v m = -1 by unfold pr; rw [if_neg (fun hh => h hh.1)]
    clear h
    go_enter Tryd.func74, Tryd.ntmps74
    go_wp2_with (go_at_call 81; refine G.out.mono ?_; rintro e w' ⟨rfl, rfl⟩)
    go_ret
    exact ⟨by rw [HP.out]; rfl, rfl⟩

theorem rprimary_any (v m : Int) (w : World) : Calls Tryd.prog 62 #[.int .i64 v, .int .i64 m] w fun e w' => e = .returned (.int .i64 (pr v m)) ∧ w = w' := by
  by_cases h1 : m < 1
  · have HP : Hid (pr v m = -1) := show pr v m = -1 by unfold pr; rw [if_neg (by omega)]
    go_enter Tryd.func62, Tryd.ntmps62
    go_wp2
    go_ret
    exact ⟨by rw [HP.out]; rfl, rfl⟩
  by_cases h2 : m > 7
  · have HP : Hid (pr v m = -1) := show pr v m = -1 by unfold pr; rw [if_neg (by omega)]
    go_enter Tryd.func62, Tryd.ntmps62
    go_wp2
    go_ret
    exact ⟨by rw [HP.out]; rfl, rfl⟩
  by_cases h3 : v < 0
  · have HP : Hid (pr v m = -1) := show pr v m = -1 by unfold pr; rw [if_neg (by omega)]
    go_enter Tryd.func62, Tryd.ntmps62
    go_wp2
    go_ret
    exact ⟨by rw [HP.out]; rfl, rfl⟩
  by_cases h4 : v > 4611686018427387904
  · have HP : Hid (pr v m = -1) := show pr v m = -1 by unfold pr; rw [if_neg (by omega)]
    go_enter Tryd.func62, Tryd.ntmps62
    go_wp2
    go_ret
    exact ⟨by rw [HP.out]; rfl, rfl⟩
  have HP : Hid (pr v m = v % m) := show pr v m = v % m by unfold pr; rw [if_pos (by omega)]
  have h5 : 0 ≤ v := by omega
  have h6 : v ≤ 4611686018427387904 := by omega
  have h7 : ¬ m = 0 := by omega
  have h8 : 1 ≤ m := by omega
  have h9 : m ≤ 7 := by omega
  clear h1 h2 h3 h4
  go_enter Tryd.func62, Tryd.ntmps62
  go_wp2
  go_ret
  exact ⟨by rw [HP.out]; rfl, rfl⟩
theorem next_no {v self m : Int} (h : ¬ ((1 ≤ m ∧ m ≤ 7) ∧ (0 ≤ v ∧ v ≤ 4611686018427387904) ∧ 0 ≤ self ∧ self < m)) : nextOf v self m = (0, false) := by
  unfold nextOf; rw [if_neg h]
theorem next_yes {v self m : Int} (h : (1 ≤ m ∧ m ≤ 7) ∧ (0 ≤ v ∧ v ≤ 4611686018427387904) ∧ 0 ≤ self ∧ self < m) (h2 : v + moreOf v self m ≤ 4611686018427387904) : nextOf v self m = (v + moreOf v self m, true) := by
  unfold nextOf; rw [if_pos h, if_pos h2]
theorem next_over {v self m : Int} (h : (1 ≤ m ∧ m ≤ 7) ∧ (0 ≤ v ∧ v ≤ 4611686018427387904) ∧ 0 ≤ self ∧ self < m) (h2 : ¬ v + moreOf v self m ≤ 4611686018427387904) : nextOf v self m = (0, false) := by
  unfold nextOf; rw [if_pos h, if_neg h2]

theorem next_any (v self m : Int) (w : World) : Calls Tryd.prog 61 #[.int .i64 v, .int .i64 self, .int .i64 m] w fun e w' => e = .returned (.tuple #[.int .i64 (nextOf v self m).1, .bool (nextOf v self m).2]) ∧ w = w' := by
  have P := Lib.hid (primary_any v m w)
  by_cases h0 : (1 ≤ m ∧ m ≤ 7) ∧ 0 ≤ v ∧ v ≤ 4611686018427387904
  · rw [show pr v m = v % m by unfold pr; rw [if_pos h0]] at P
    obtain ⟨⟨m1, m2⟩, v1, v2⟩ := h0
    have hp : 0 ≤ v % m ∧ v % m < m := ⟨Int.emod_nonneg _ (by omega), Int.emod_lt_of_pos _ (by omega)⟩
    by_cases h1 : self < 0
    · have HN : Hid (nextOf v self m = (0, false)) := next_no (by omega)
      obtain ⟨p, hpp⟩ : ∃ p, p = v % m := ⟨_, rfl⟩
      rw [← hpp] at P hp
      obtain ⟨p0, p1⟩ := hp
      have hpn : ¬ p < 0 := by omega
      clear hpp
      go_enter Tryd.func61, Tryd.ntmps61
      go_wp2_with (go_at_call 74; refine P.out.mono ?_; rintro e w' ⟨rfl, rfl⟩)
      go_ret2
      exact ⟨by rw [HN.out]; rfl, rfl⟩
    by_cases h2 : self ≥ m
    · have HN : Hid (nextOf v self m = (0, false)) := next_no (by omega)
      obtain ⟨p, hpp⟩ : ∃ p, p = v % m := ⟨_, rfl⟩
      rw [← hpp] at P hp
      obtain ⟨p0, p1⟩ := hp
      have hpn : ¬ p < 0 := by omega
      clear hpp
      go_enter Tryd.func61, Tryd.ntmps61
      go_wp2_with (go_at_call 74; refine P.out.mono ?_; rintro e w' ⟨rfl, rfl⟩)
      go_ret2
      exact ⟨by rw [HN.out]; rfl, rfl⟩
    have h3 : 0 ≤ self := by omega
    have h4 : self < m := by omega
    have hr : 0 ≤ (self - v % m + m) % m ∧ (self - v % m + m) % m < m := ⟨Int.emod_nonneg _ (by omega), Int.emod_lt_of_pos _ (by omega)⟩
    by_cases hz : (self - v % m + m) % m = 0
    · have hmo : moreOf v self m = m := by unfold moreOf; rw [if_pos hz]
      have HZ : Hid ((self - v % m + m) % m = 0) := hz
      by_cases ho : v + m ≤ 4611686018427387904
      · have HN : Hid (nextOf v self m = (v + m, true)) := by
          have := next_yes (v := v) (self := self) (m := m) (by omega) (by rw [hmo]; exact ho)
          rw [hmo] at this; exact this
        obtain ⟨p, hpp⟩ : ∃ p, p = v % m := ⟨_, rfl⟩
        rw [← hpp] at P hp hr HZ
        have hz' := HZ.out
        obtain ⟨p0, p1⟩ := hp
        obtain ⟨r0, r1⟩ := hr
        have hpn : ¬ p < 0 := by omega
        have ho' : ¬ v > 4611686018427387904 - m := by omega
        clear hpp hz hmo h1 h2
        go_enter Tryd.func61, Tryd.ntmps61
        go_wp2_with (go_at_call 74; refine P.out.mono ?_; rintro e w' ⟨rfl, rfl⟩)
        go_ret2
        exact ⟨by rw [HN.out]; rfl, rfl⟩
      · have HN : Hid (nextOf v self m = (0, false)) := next_over (by omega) (by rw [hmo]; exact ho)
        obtain ⟨p, hpp⟩ : ∃ p, p = v % m := ⟨_, rfl⟩
        rw [← hpp] at P hp hr HZ
        have hz' := HZ.out
        obtain ⟨p0, p1⟩ := hp
        obtain ⟨r0, r1⟩ := hr
        have hpn : ¬ p < 0 := by omega
        have ho' : v > 4611686018427387904 - m := by omega
        clear hpp hz hmo h1 h2
        go_enter Tryd.func61, Tryd.ntmps61
        go_wp2_with (go_at_call 74; refine P.out.mono ?_; rintro e w' ⟨rfl, rfl⟩)
        go_ret2
        exact ⟨by rw [HN.out]; rfl, rfl⟩
    · have hmo : moreOf v self m = (self - v % m + m) % m := by unfold moreOf; rw [if_neg hz]
      obtain ⟨r, HZ⟩ : ∃ r, Hid ((self - v % m + m) % m = r) := ⟨_, rfl⟩
      rw [HZ.out] at hr hz hmo
      have hz0 : (r == 0) = false := by simpa using hz
      by_cases ho : v + r ≤ 4611686018427387904
      · have HN : Hid (nextOf v self m = (v + r, true)) := by
          have := next_yes (v := v) (self := self) (m := m) (by omega) (by rw [hmo]; exact ho)
          rw [hmo] at this; exact this
        obtain ⟨p, hpp⟩ : ∃ p, p = v % m := ⟨_, rfl⟩
        rw [← hpp] at P hp HZ
        have hz' := HZ.out
        obtain ⟨p0, p1⟩ := hp
        obtain ⟨r0, r1⟩ := hr
        have hpn : ¬ p < 0 := by omega
        have ho' : ¬ v > 4611686018427387904 - r := by omega
        clear hpp hz hmo h1 h2
        go_enter Tryd.func61, Tryd.ntmps61
        go_wp2_with (go_at_call 74; refine P.out.mono ?_; rintro e w' ⟨rfl, rfl⟩)
        go_ret2
        exact ⟨by rw [HN.out]; rfl, rfl⟩
      · have HN : Hid (nextOf v self m = (0, false)) := next_over (by omega) (by rw [hmo]; exact ho)
        obtain ⟨p, hpp⟩ : ∃ p, p = v % m := ⟨_, rfl⟩
        rw [← hpp] at P hp HZ
        have hz' := HZ.out
        obtain ⟨p0, p1⟩ := hp
        obtain ⟨r0, r1⟩ := hr
        have hpn : ¬ p < 0 := by omega
        have ho' : v > 4611686018427387904 - r := by omega
        clear hpp hz hmo h1 h2
        go_enter Tryd.func61, Tryd.ntmps61
        go_wp2_with (go_at_call 74; refine P.out.mono ?_; rintro e w' ⟨rfl, rfl⟩)
        go_ret2
        exact ⟨by rw [HN.out]; rfl, rfl⟩
  · rw [show pr v m = -1 by unfold pr; rw [if_neg h0]] at P
    have HN : Hid (nextOf v self m = (0, false)) := next_no (fun h => h0 ⟨h.1, h.2.1⟩)
    clear h0
    go_enter Tryd.func61, Tryd.ntmps61
    go_wp2_with (go_at_call 74; refine P.out.mono ?_; rintro e w' ⟨rfl, rfl⟩)
    go_ret2
    exact ⟨by rw [HN.out]; rfl, rfl⟩

theorem view_any (v self m : Int) (w : World) : Calls Tryd.prog 27 #[.int .i64 v, .int .i64 self, .int .i64 m] w fun e w' => e = .returned (.tuple #[.int .i64 (nextOf v self m).1, .bool (nextOf v self m).2]) ∧ w = w' := by
  have N := Lib.hid (next_any v self m w)
  generalize nextOf v self m = x at N
  go_enter Tryd.func27, Tryd.ntmps27
  go_wp2_with (go_at_call 61; refine N.out.mono ?_; rintro e w' ⟨rfl, rfl⟩)
  go_ret2
  exact ⟨rfl, rfl⟩

theorem rnext_any (v self m : Int) (w : World) : Calls Tryd.prog 28 #[.int .i64 v, .int .i64 self, .int .i64 m] w fun e w' => e = .returned (.tuple #[.int .i64 (nextOf v self m).1, .bool (nextOf v self m).2]) ∧ w = w' := by
  have P := Lib.hid (fun v => rprimary_any v m w)
  by_cases h0 : (1 ≤ m ∧ m ≤ 7) ∧ 0 ≤ v ∧ v ≤ 4611686018427387904
  · have hpv : pr v m = v % m := by unfold pr; rw [if_pos h0]
    have P0 := Lib.hid (P.out v)
    rw [hpv] at P0
    have ⟨⟨m1, m2⟩, v1, v2⟩ := h0
    have hp : 0 ≤ v % m ∧ v % m < m := ⟨Int.emod_nonneg _ (by omega), Int.emod_lt_of_pos _ (by omega)⟩
    by_cases h1 : self < 0
    · have HN : Hid (nextOf v self m = (0, false)) := next_no (by omega)
      obtain ⟨p, hpp⟩ : ∃ p, p = v % m := ⟨_, rfl⟩
      rw [← hpp] at P0 hp
      obtain ⟨p0, p1⟩ := hp
      have hpn : ¬ p < 0 := by omega
      clear hpp h0 hpv
      go_enter Tryd.func28, Tryd.ntmps28
      go_wp2_with (go_at_call 62; refine P0.out.mono ?_; rintro e w' ⟨rfl, rfl⟩)
      go_ret2
      exact ⟨by rw [HN.out]; rfl, rfl⟩
    by_cases h2 : self ≥ m
    · have HN : Hid (nextOf v self m = (0, false)) := next_no (by omega)
      obtain ⟨p, hpp⟩ : ∃ p, p = v % m := ⟨_, rfl⟩
      rw [← hpp] at P0 hp
      obtain ⟨p0, p1⟩ := hp
      have hpn : ¬ p < 0 := by omega
      clear hpp h0 hpv
      go_enter Tryd.func28, Tryd.ntmps28
      go_wp2_with (go_at_call 62; refine P0.out.mono ?_; rintro e w' ⟨rfl, rfl⟩)
      go_ret2
      exact ⟨by rw [HN.out]; rfl, rfl⟩
    have hall : (1 ≤ m ∧ m ≤ 7) ∧ (0 ≤ v ∧ v ≤ 4611686018427387904) ∧ 0 ≤ self ∧ self < m := by omega
    obtain ⟨f1, f2, f3, f4⟩ := more_facts m1 m2 v1 (show 0 ≤ self by omega) (show self < m by omega)
    have HY := Lib.hid (next_yes hall)
    have HO := Lib.hid (next_over hall)
    obtain ⟨t, ht⟩ : ∃ t, t = moreOf v self m := ⟨_, rfl⟩
    rw [← ht] at f1 f2 f3 f4 HY HO
    have F3 := Lib.hid f3
    have F4 := Lib.hid f4
    obtain ⟨p, hpp⟩ : ∃ p, p = v % m := ⟨_, rfl⟩
    rw [← hpp] at P0 hp
    obtain ⟨p0, p1⟩ := hp
    have hpn : ¬ p < 0 := by omega
    have hs1 : ¬ self < 0 := h1
    clear hpp h0 hpv f3 f4 ht hall
    go_enter Tryd.func28, Tryd.ntmps28
    go_wp2_with (go_at_call 62; refine P0.out.mono ?_; rintro e w' ⟨rfl, rfl⟩)
    go_loop [8] (fun i => ∃ d : Nat, 1 ≤ d ∧ (d : Int) ≤ t ∧ i = .int .i64 (v + d)) (fun i => (v + 8 - intOf i).toNat)
    case atStart => exact ⟨1, by omega, by omega, rfl⟩
    case round =>
      obtain ⟨d, hd1, hd2, rfl⟩ := hrel
      by_cases ho : v + d ≤ 4611686018427387904
      · have PD := Lib.hid (P.out (v + d))
        rw [show pr (v + d) m = (v + d) % m by unfold pr; rw [if_pos (by omega)]] at PD
        by_cases he : (d : Int) = t
        · have hq : ((v + (d : Int)) % m == self) = true := by rw [he, F3.out]; simp
          have HN : Hid (nextOf v self m = (v + (d : Int), true)) := by rw [he]; exact HY.out (by omega)
          generalize (v + (d : Int)) % m = x at PD hq
          clear he
          go_wp2_with (go_at_call 62; refine PD.out.mono ?_; rintro e w' ⟨rfl, rfl⟩)
          go_ret2
          exact ⟨by rw [HN.out]; rfl, rfl⟩
        · have hq : ((v + (d : Int)) % m == self) = false := by simpa using F4.out d (by omega) (by omega)
          generalize (v + (d : Int)) % m = x at PD hq
          go_wp2_with (go_at_call 62; refine PD.out.mono ?_; rintro e w' ⟨rfl, rfl⟩)
          go_round
          case rel => exact ⟨d + 1, by omega, by omega, by congr 1; omega⟩
          case measure => simp [intOf]; omega
      · have HN : Hid (nextOf v self m = (0, false)) := HO.out (by omega)
        go_wp2
        go_ret2
        exact ⟨by rw [HN.out]; rfl, rfl⟩
  · have hpv : pr v m = -1 := by unfold pr; rw [if_neg h0]
    have P0 := Lib.hid (P.out v)
    rw [hpv] at P0
    have HN : Hid (nextOf v self m = (0, false)) := next_no (fun h => h0 ⟨h.1, h.2.1⟩)
    clear h0 hpv
    go_enter Tryd.func28, Tryd.ntmps28
    go_wp2_with (go_at_call 62; refine P0.out.mono ?_; rintro e w' ⟨rfl, rfl⟩)
    go_ret2
    exact ⟨by rw [HN.out]; rfl, rfl⟩

end Go.Proofs.YtbkjhogfpcmcbaaDoor
