/- watcher: compare. Conditions: none. -/
import Derived.Test.YtmcjpochpmiipaaDoorVa
namespace Go.Proofs.YtmcjpochpmiipaaDoor
open Go.RowKit
set_option linter.unusedVariables false
set_option linter.unusedSimpArgs false
set_option maxHeartbeats 1000000 in
theorem cmp_any (p q : Wt) (w : World) : Calls Tryd.prog 24 #[tv p, tv q] w fun e w' => e = .returned (.int .i64 (cmpW p q)) ∧ Below w.heap.size w w' := by
  have HP := Lib.hid ((Box.new w 31 #[.int .i64 p.1, .string p.2.1, .bool p.2.2]).alloc (.cells #[.int .i64 q.1, .string q.2.1, .bool q.2.2] 31))
  have HQ := Lib.hid (Box.new (w.alloc (.cells #[.int .i64 p.1, .string p.2.1, .bool p.2.2] 31)) 31 #[.int .i64 q.1, .string q.2.1, .bool q.2.2])
  have B0 := Lib.hid (((Below.refl w.heap.size w).alloc (Nat.le_refl _) (.cells #[.int .i64 p.1, .string p.2.1, .bool p.2.2] 31)).alloc (by simp) (.cells #[.int .i64 q.1, .string q.2.1, .bool q.2.2] 31))
  have hsz : (w.alloc (.cells #[.int .i64 p.1, .string p.2.1, .bool p.2.2] 31)).heap.size = w.heap.size + 1 := by simp
  rw [hsz] at HQ
  obtain ⟨R, hR⟩ : ∃ R, cmpW p q = R := ⟨_, rfl⟩
  have HR := Lib.hid hR
  unfold tv
  rw [hR]
  clear hR hsz
  go_enter Tryd.func24, Tryd.ntmps24
  go_wp2_with fail
  generalize hw0 : (w.alloc (.cells #[.int .i64 p.1, .string p.2.1, .bool p.2.2] 31)).alloc (.cells #[.int .i64 q.1, .string q.2.1, .bool q.2.2] 31) = w0 at HP HQ B0 ⊢
  clear hw0
  refine wp_region_mixed (Below w0.heap.size w0) 15 17 _ (by kernel_rfl) rfl (by kernel_rfl) (by kernel_rfl) _ _ rfl rfl (Below.drew (Below.refl _ _)) ?_
  simp only [List.take_succ_cons, List.take_zero, List.drop_succ_cons, List.drop_zero]
  go_big_quiet_want; apply quiet_value; (· (intro w hw; go_simp; try rfl)); simp only [Act.put, List.setIfInBounds_toArray, List.set_cons_succ, List.set_cons_zero]; go_big_quiet_on
  go_big_quiet_want; apply quiet_value; (· (intro w hw; have c0 : w.cell? ⟨_, 0, none⟩ = some (.int .i64 p.1) := (HP.out.below hw HP.out.lt).cell 0; go_simp; try rfl)); simp only [Act.put, List.setIfInBounds_toArray, List.set_cons_succ, List.set_cons_zero]; go_big_quiet_on
  go_big_quiet_want; apply quiet_value; (· (intro w hw; go_simp; try rfl)); simp only [Act.put, List.setIfInBounds_toArray, List.set_cons_succ, List.set_cons_zero]; go_big_quiet_on
  go_big_quiet_want; apply quiet_value; (· (intro w hw; have c0 : w.cell? ⟨_, 0, none⟩ = some (.int .i64 q.1) := (HQ.out.below hw HQ.out.lt).cell 0; go_simp; try rfl)); simp only [Act.put, List.setIfInBounds_toArray, List.set_cons_succ, List.set_cons_zero]; go_big_quiet_on
  go_big_quiet_want; apply quiet_call (f := 36); (· (intro w hw; go_simp; try rfl)); (· (intro w hw; exact in_class (compare_any p.1 q.1 w) hw)); simp only [Act.put, List.setIfInBounds_toArray, List.set_cons_succ, List.set_cons_zero]; go_big_quiet_on
  go_big_quiet_want; apply quiet_value; (· (intro w hw; go_simp; try rfl)); simp only [Act.put, List.setIfInBounds_toArray, List.set_cons_succ, List.set_cons_zero]; go_big_quiet_on
  go_big_quiet_want; apply quiet_value; (· (intro w hw; have c1 : w.cell? ⟨_, 1, none⟩ = some (.string p.2.1) := (HP.out.below hw HP.out.lt).cell 1; go_simp; try rfl)); simp only [Act.put, List.setIfInBounds_toArray, List.set_cons_succ, List.set_cons_zero]; go_big_quiet_on
  go_big_quiet_want; apply quiet_value; (· (intro w hw; go_simp; try rfl)); simp only [Act.put, List.setIfInBounds_toArray, List.set_cons_succ, List.set_cons_zero]; go_big_quiet_on
  go_big_quiet_want; apply quiet_value; (· (intro w hw; have c1 : w.cell? ⟨_, 1, none⟩ = some (.string q.2.1) := (HQ.out.below hw HQ.out.lt).cell 1; go_simp; try rfl)); simp only [Act.put, List.setIfInBounds_toArray, List.set_cons_succ, List.set_cons_zero]; go_big_quiet_on
  go_big_quiet_want; apply quiet_call (f := 37); (· (intro w hw; go_simp; try rfl)); (· (intro w hw; exact in_class (compares_any p.2.1 q.2.1 w) hw)); simp only [Act.put, List.setIfInBounds_toArray, List.set_cons_succ, List.set_cons_zero]; go_big_quiet_on
  go_big_quiet_want; apply quiet_value; (· (intro w hw; have c0 : w.cell? ⟨_, 0, none⟩ = some (.int .i64 p.1) := (HP.out.below hw HP.out.lt).cell 0; have c1 : w.cell? ⟨_, 1, none⟩ = some (.string p.2.1) := (HP.out.below hw HP.out.lt).cell 1; have c2 : w.cell? ⟨_, 2, none⟩ = some (.bool p.2.2) := (HP.out.below hw HP.out.lt).cell 2; go_simp; try rfl)); simp only [Act.put, List.setIfInBounds_toArray, List.set_cons_succ, List.set_cons_zero]; go_big_quiet_on
  go_big_quiet_want; apply quiet_call (f := 38); (· (intro w hw; go_simp; try rfl)); (· (intro w hw; exact in_below (rank_any p w) hw (Nat.le_refl _))); simp only [Act.put, List.setIfInBounds_toArray, List.set_cons_succ, List.set_cons_zero]; go_big_quiet_on
  go_big_quiet_want; apply quiet_value; (· (intro w hw; have c0 : w.cell? ⟨_, 0, none⟩ = some (.int .i64 q.1) := (HQ.out.below hw HQ.out.lt).cell 0; have c1 : w.cell? ⟨_, 1, none⟩ = some (.string q.2.1) := (HQ.out.below hw HQ.out.lt).cell 1; have c2 : w.cell? ⟨_, 2, none⟩ = some (.bool q.2.2) := (HQ.out.below hw HQ.out.lt).cell 2; go_simp; try rfl)); simp only [Act.put, List.setIfInBounds_toArray, List.set_cons_succ, List.set_cons_zero]; go_big_quiet_on
  go_big_quiet_want; apply quiet_call (f := 38); (· (intro w hw; go_simp; try rfl)); (· (intro w hw; exact in_below (rank_any q w) hw (Nat.le_refl _))); simp only [Act.put, List.setIfInBounds_toArray, List.set_cons_succ, List.set_cons_zero]; go_big_quiet_on
  go_big_quiet_want; apply quiet_call (f := 36); (· (intro w hw; go_simp; try rfl)); (· (intro w hw; exact in_class (compare_any (rankW p) (rankW q) w) hw)); simp only [Act.put, List.setIfInBounds_toArray, List.set_cons_succ, List.set_cons_zero]; go_big_quiet_on
  refine wpQuiet_nil ?_
  intro w1 hw1
  have HW1 := Lib.hid hw1
  clear hw1
  refine wpTail_more ?_
  go_wp2_with fail
  refine ThenS.mk trivial ?_
  refine wpTail_more ?_
  have HO := Lib.hid (Box.new w1 3 #[.int .i64 (cmpI p.1 q.1), .int .i64 (cmpS p.2.1 q.2.1), .int .i64 (cmpI (rankW p) (rankW q))])
  have C1 := or_any _ _ _ _ _ HO.out
  go_wp2_with fail
  refine C1.mono ?_
  rintro e w2 ⟨rfl, rfl⟩
  go_wp2_with fail
  refine ThenS.mk trivial ?_
  refine wpTail_last ?_
  go_wp2
  go_ret
  exact ⟨by rw [← HR.out]; rfl, B0.out.trans ((HW1.out.mono B0.out.size).alloc (by have h1 := B0.out.size; have h2 := HW1.out.size; omega) _)⟩
end Go.Proofs.YtmcjpochpmiipaaDoor
