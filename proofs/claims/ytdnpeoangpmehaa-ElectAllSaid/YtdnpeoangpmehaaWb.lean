/- The walks of a timer's calls: Tick, Heard, Wait, Limit. Conditions: the timer lies in memory, its numbers are small. -/
import Derived.Test.YtdnpeoangpmehaaWa
import Derived.BigQuiet
import Derived.Test.YtdnpeoangpmehaaScope
namespace Go.Proofs.Ytdnpeoangpmehaa
open Go.RowKit

/-- a timer's cells. -/
def cells (s m wt lim : Nat) : Array Value := #[.int .i64 s, .int .i64 m, .int .i64 wt, .int .i64 lim]
/-- small numbers. -/
def Small (s m wt lim : Nat) : Prop := 1 ≤ s ∧ s ≤ 1000 ∧ m ≤ 7 ∧ wt ≤ 2000000 ∧ 1 ≤ lim ∧ lim ≤ 1000000

theorem heard_any {s m wt lim b : Nat} (w : World) (hb : Box w b 46 (cells s m wt lim)) :
    Calls Try.prog 13 #[.pointer (some ⟨b, 0, none⟩)] w fun e w' => e = .returned (.tuple #[]) ∧ w' = w.setCell ⟨b, 2, none⟩ (.int .i64 0) := by
  have c2 : w.cell? ⟨b, 2, none⟩ = some (.int .i64 wt) := hb.cell 2
  have f2 := hb.frozen 2
  clear hb
  go_enter Try.func13, Try.ntmps13
  go_wp2
  go_end0
  exact ⟨rfl, rfl⟩
theorem wait_any {s m wt lim b : Nat} (w : World) (hb : Box w b 46 (cells s m wt lim)) :
    Calls Try.prog 15 #[.pointer (some ⟨b, 0, none⟩)] w fun e w' => e = .returned (.int .i64 wt) ∧ w = w' := by
  have c2 : w.cell? ⟨b, 2, none⟩ = some (.int .i64 wt) := hb.cell 2
  clear hb
  go_enter Try.func15, Try.ntmps15
  go_wp2
  go_ret
  exact ⟨rfl, rfl⟩
theorem limit_any {s m wt lim b : Nat} (w : World) (hb : Box w b 46 (cells s m wt lim)) :
    Calls Try.prog 16 #[.pointer (some ⟨b, 0, none⟩)] w fun e w' => e = .returned (.int .i64 lim) ∧ w = w' := by
  have c3 : w.cell? ⟨b, 3, none⟩ = some (.int .i64 lim) := hb.cell 3
  clear hb
  go_enter Try.func16, Try.ntmps16
  go_wp2
  go_ret
  exact ⟨rfl, rfl⟩

/-- what a tick makes of a timer: lead, nudge, wait, limit. -/
def tick (leads : Bool) (s m wt lim : Nat) : Bool × Bool × Nat × Nat :=
  if leads then (false, decide (s ≤ wt + 1), if s ≤ wt + 1 then 0 else wt + 1, lim)
  else if lim ≤ wt + 1 then (true, false, 0, if lim + s * (m + 2) ≤ 1000000 then lim + s * (m + 2) else lim)
  else (false, false, wt + 1, lim)

theorem cells_succ (s m wt lim : Nat) : cells s m (wt + 1) lim = #[.int .i64 s, .int .i64 m, .int .i64 ((wt : Int) + 1), .int .i64 lim] := rfl
theorem cells_more (s m lim p : Nat) : cells s m 0 (lim + p) = #[.int .i64 s, .int .i64 m, .int .i64 0, .int .i64 ((lim : Int) + p)] := rfl

theorem tick_any (leads : Bool) {s m wt lim b : Nat} (hs : Small s m wt lim) (w : World) (hb : Box w b 46 (cells s m wt lim)) :
    Calls Try.prog 11 #[.pointer (some ⟨b, 0, none⟩), .bool leads] w fun e w' => e = .returned (.tuple #[.bool (tick leads s m wt lim).1, .bool (tick leads s m wt lim).2.1]) ∧
      Box w' b 46 (cells s m (tick leads s m wt lim).2.2.1 (tick leads s m wt lim).2.2.2) ∧ Touch (· = b) w w' := by
  obtain ⟨s0, s1, m1, t1, l0, l1⟩ := hs
  have c0 : w.cell? ⟨b, 0, none⟩ = some (.int .i64 s) := hb.cell 0
  have c1 : w.cell? ⟨b, 1, none⟩ = some (.int .i64 m) := hb.cell 1
  have c2 : w.cell? ⟨b, 2, none⟩ = some (.int .i64 wt) := hb.cell 2
  have c3 : w.cell? ⟨b, 3, none⟩ = some (.int .i64 lim) := hb.cell 3
  have f2 := hb.frozen 2
  have f3 := hb.frozen 3
  have HB := Lib.hid hb
  clear hb
  cases leads with
  | true =>
    by_cases h : s ≤ wt + 1
    · have HT : Hid (tick true s m wt lim = (false, true, 0, lim)) := by show _ = _; simp [tick, h]
      have h1 : (s : Int) ≤ (wt : Int) + 1 := by omega
      go_enter Try.func11, Try.ntmps11
      go_wp2
      refine wp_scope_forward 0 rfl ?_
      go_wp2
      go_region
      go_wp2
      go_step3
      refine ⟨rfl, ?_⟩
      go_wp2
      rw [Exit.noGoto_ret]
      go_ret2
      rw [HT.out]
      exact ⟨rfl, ((HB.out.set 2 _).set 2 _).drew, (((Touch.refl _ _).set1 2 _).set1 2 _).drew⟩
    · have HT : Hid (tick true s m wt lim = (false, false, wt + 1, lim)) := by show _ = _; simp [tick, h]
      have h1 : ¬ (s : Int) ≤ (wt : Int) + 1 := by omega
      have hd : decide ((s : Int) ≤ (wt : Int) + 1) = false := by simpa using h1
      go_enter Try.func11, Try.ntmps11
      go_wp2
      refine wp_scope_forward 0 rfl ?_
      go_wp2
      go_region
      go_wp2
      go_step3
      refine ⟨rfl, ?_⟩
      go_wp2
      rw [Exit.noGoto_ret]
      go_ret2
      rw [HT.out]
      exact ⟨rfl, by rw [cells_succ]; exact (HB.out.set 2 _).drew, ((Touch.refl _ _).set1 2 _).drew⟩
  | false =>
    by_cases h : lim ≤ wt + 1
    · have h1 : (lim : Int) ≤ (wt : Int) + 1 := by omega
      have hmul : s * (m + 2) ≤ 9000 := Nat.le_trans (Nat.mul_le_mul s1 (show m + 2 ≤ 9 by omega)) (by omega)
      have hmi : ((s * (m + 2) : Nat) : Int) = (s : Int) * ((m : Int) + 2) := by simp
      obtain ⟨p, hp⟩ : ∃ p, p = s * (m + 2) := ⟨_, rfl⟩
      rw [← hp] at hmul hmi
      by_cases h2 : lim + p ≤ 1000000
      · have HT : Hid (tick false s m wt lim = (true, false, 0, lim + p)) := by show _ = _; simp [tick, h, ← hp, h2]
        have h3 : (lim : Int) ≤ 1000000 - (p : Int) := by omega
        have hmi' := hmi.symm
        clear hmi hp
        go_enter Try.func11, Try.ntmps11
        go_wp2
        refine wp_scope_forward 0 rfl ?_
        go_wp2
        go_region
        go_wp2
        go_region
        go_wp2
        go_region
        go_wp2
        go_step3
        go_wp2
        rw [jump_ret]
        go_ret2
        rw [HT.out]
        exact ⟨rfl, by rw [cells_more]; exact (((HB.out.set 2 _).set 3 _).set 2 _).drew.drew.drew, ((((Touch.refl _ _).set1 2 _).set1 3 _).set1 2 _).drew.drew.drew⟩
      · have HT : Hid (tick false s m wt lim = (true, false, 0, lim)) := by show _ = _; simp [tick, h, ← hp, h2]
        have h3 : ¬ (lim : Int) ≤ 1000000 - (p : Int) := by omega
        have hd : decide ((lim : Int) ≤ 1000000 - (p : Int)) = false := by simpa using h3
        have hmi' := hmi.symm
        clear hmi hp
        go_enter Try.func11, Try.ntmps11
        go_wp2
        refine wp_scope_forward 0 rfl ?_
        go_wp2
        go_quiet (fail)
        go_wp2
        go_quiet (fail)
        go_wp2
        go_step3
        go_wp2
        rw [jump_ret]
        go_ret2
        rw [HT.out]
        exact ⟨rfl, ((HB.out.set 2 _).set 2 _).drewN _, (((Touch.refl _ _).set1 2 _).set1 2 _).drewN _⟩
    · have HT : Hid (tick false s m wt lim = (false, false, wt + 1, lim)) := by show _ = _; simp [tick, h]
      have h1 : ¬ (lim : Int) ≤ (wt : Int) + 1 := by omega
      have hd : decide ((lim : Int) ≤ (wt : Int) + 1) = false := by simpa using h1
      go_enter Try.func11, Try.ntmps11
      go_wp2
      refine wp_scope_forward 0 rfl ?_
      go_wp2
      go_quiet (fail)
      go_wp2
      go_quiet (fail)
      go_wp2
      go_step3
      go_wp2
      rw [jump_ret]
      go_ret2
      rw [HT.out]
      exact ⟨rfl, by rw [cells_succ]; exact (HB.out.set 2 _).drewN _, ((Touch.refl _ _).set1 2 _).drewN _⟩
end Go.Proofs.Ytdnpeoangpmehaa
