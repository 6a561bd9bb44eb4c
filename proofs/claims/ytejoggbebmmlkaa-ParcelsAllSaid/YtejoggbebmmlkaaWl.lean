/- parcels: which packets go between two ends; IndexFunc over them. Conditions: the row is the call's own. -/
import Derived.Test.YtejoggbebmmlkaaWj
namespace Go.Proofs.Ytejoggbebmmlkaa
open Go.RowKit
set_option linter.unusedVariables false
set_option linter.unusedSimpArgs false
variable {w w' : World} {base n m : Nat} {v : Value} {ps : List Pk} {M : List (Int × Int)}

/-- the pair of a packet; of two ends. -/
def pairOf (p : Pk) : Int × Int := (min p.1 p.2.1, max p.1 p.2.1)
def pairOf2 (a b : Int) : Int × Int := (min a b, max a b)
/-- two variables. -/
structure Vars (w : World) (ba bb : Nat) (a b : Int) : Prop where
  fst : Box w ba 3 #[.int .i64 a]
  snd : Box w bb 3 #[.int .i64 b]
theorem Vars.below {ba bb B : Nat} {a b : Int} (h : Vars w ba bb a b) (hb : Below B w w') (hB : w.heap.size ≤ B) : Vars w' ba bb a b :=
  ⟨h.fst.below hb (Nat.lt_of_lt_of_le h.fst.lt hB), h.snd.below hb (Nat.lt_of_lt_of_le h.snd.lt hB)⟩
def goesB (a b : Int) (p : Pk) : Bool := decide (pairOf p = pairOf2 a b)

theorem pick_end {p : Pk} {a b : Int} {q : Bool} (hq : goesB a b p = q) (w' : World) : (if min p.1 p.2.1 = min a b then if max p.1 p.2.1 = max a b then Result.ok (Next.value (Value.bool true)) w' else Result.ok (Next.value (Value.bool false)) w' else Result.ok (Next.value (Value.bool false)) w') = Result.ok (Next.value (Value.bool q)) w' := by
  subst hq
  by_cases e1 : min p.1 p.2.1 = min a b
  · by_cases e2 : max p.1 p.2.1 = max a b
    · simp [goesB, pairOf, pairOf2, e1, e2]
    · simp [goesB, pairOf, pairOf2, e1, e2]
  · simp [goesB, pairOf, pairOf2, e1]

theorem pick_any (p : Pk) (ba bb : Nat) (a b : Int) (h : Vars w ba bb a b) (q : Bool) (hq : goesB a b p = q) :
    Calls Try.prog 24 #[pv p, .pointer (some ⟨ba, 0, none⟩), .pointer (some ⟨bb, 0, none⟩)] w fun e w' => e = .returned (.bool q) ∧ Below w.heap.size w w' := by
  have HV := Lib.hid h
  have h1 := h.fst.lt
  have h2 := h.snd.lt
  have HX := Lib.hid (Box.new w 27 #[.int .i64 p.1, .int .i64 p.2.1, .string p.2.2])
  have HE := Lib.hid (equal_pair (pairOf p) (pairOf2 a b))
  have hq' : decide (pairOf p = pairOf2 a b) = q := hq
  rw [hq'] at HE
  unfold pv
  unfold pairOf pairOf2 pairV at HE
  have HQ := Lib.hid hq
  clear h hq hq'
  go_enter Try.func24, Try.ntmps24
  go_wp2
  have hB0 : w.heap.size ≤ (w.alloc (.cells #[.int .i64 p.1, .int .i64 p.2.1, .string p.2.2] 27)).heap.size := by simp
  have hW : Below (w.heap.size + 1) (w.alloc (.cells #[.int .i64 p.1, .int .i64 p.2.1, .string p.2.2] 27)) (w.alloc (.cells #[.int .i64 p.1, .int .i64 p.2.1, .string p.2.2] 27)) := Below.refl _ _
  refine wp_region_below (B := w.heap.size + 1) (w0 := w.alloc (.cells #[.int .i64 p.1, .int .i64 p.2.1, .string p.2.2] 27)) (by kernel_rfl) (by kernel_rfl) hW ?_
  go_big_quiet_want; apply quiet_value; (· (intro w' hw; go_simp; try rfl)); simp only [Act.put, List.setIfInBounds_toArray, List.set_cons_succ, List.set_cons_zero]; go_big_quiet_on
  go_big_quiet_want; apply quiet_value; (· (intro w' hw; have c0 : w'.cell? ⟨w.heap.size, 0, none⟩ = some (.int .i64 p.1) := (HX.out.below hw (Nat.lt_succ_self _)).cell 0; go_simp; try rfl)); simp only [Act.put, List.setIfInBounds_toArray, List.set_cons_succ, List.set_cons_zero]; go_big_quiet_on
  go_big_quiet_want; apply quiet_value; (· (intro w' hw; go_simp; try rfl)); simp only [Act.put, List.setIfInBounds_toArray, List.set_cons_succ, List.set_cons_zero]; go_big_quiet_on
  go_big_quiet_want; apply quiet_value; (· (intro w' hw; have c0 : w'.cell? ⟨w.heap.size, 1, none⟩ = some (.int .i64 p.2.1) := (HX.out.below hw (Nat.lt_succ_self _)).cell 1; go_simp; try rfl)); simp only [Act.put, List.setIfInBounds_toArray, List.set_cons_succ, List.set_cons_zero]; go_big_quiet_on
  go_big_quiet_want; apply quiet_call (f := 22); (· (intro w hw; go_simp; try rfl)); (· (exact fun w2 hw => in_below (both_any p.1 p.2.1 w2) hw (by simp))); simp only [Act.put, List.setIfInBounds_toArray, List.set_cons_succ, List.set_cons_zero]; go_big_quiet_on
  go_big_quiet_want; apply quiet_value; (· (intro w' hw; have c0 : w'.cell? ⟨ba, 0, none⟩ = some (.int .i64 a) := ((HV.out.fst.alloc _).below hw (by omega)).cell 0; go_simp; try rfl)); simp only [Act.put, List.setIfInBounds_toArray, List.set_cons_succ, List.set_cons_zero]; go_big_quiet_on
  go_big_quiet_want; apply quiet_value; (· (intro w' hw; have c0 : w'.cell? ⟨bb, 0, none⟩ = some (.int .i64 b) := ((HV.out.snd.alloc _).below hw (by omega)).cell 0; go_simp; try rfl)); simp only [Act.put, List.setIfInBounds_toArray, List.set_cons_succ, List.set_cons_zero]; go_big_quiet_on
  go_big_quiet_want; apply quiet_call (f := 22); (· (intro w hw; go_simp; try rfl)); (· (exact fun w2 hw => in_below (both_any a b w2) hw (by simp))); simp only [Act.put, List.setIfInBounds_toArray, List.set_cons_succ, List.set_cons_zero]; go_big_quiet_on
  go_big_quiet_want; apply quiet_value (v := .bool q); (· (intro w' hw; go_simp; exact pick_end HQ.out w')); simp only [Act.put, List.setIfInBounds_toArray, List.set_cons_succ, List.set_cons_zero]; go_big_quiet_on
  go_big_quiet_want; go_big_quiet_op; go_big_quiet_on
  refine wpQuiet_nil ?_
  intro w2 hb2
  go_wp2
  go_ret
  exact ⟨rfl, ((Below.refl _ _).alloc (Nat.le_refl _) _).trans (hb2.mono (by omega))⟩
end Go.Proofs.Ytejoggbebmmlkaa
