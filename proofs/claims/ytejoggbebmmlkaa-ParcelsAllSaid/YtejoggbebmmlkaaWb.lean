/- parcels: a look-up in an empty map. Conditions: none. -/
import Derived.Test.YtejoggbebmmlkaaWa
namespace Go.Proofs.Ytejoggbebmmlkaa
open Go.RowKit

theorem check_pair (x y : Int) (w : World) : (Instr.checkKey true 10000 54 (.agg #[.int .i64 x, .int .i64 y])).run Try.prog w = .ok () w := by kernel_rfl

theorem look_none (x y : Int) (m : Nat) (w : World) (h : w.heap[m]? = some (.map #[] 0)) :
    (Instr.lookup 49 (.map (some m)) (.agg #[.int .i64 x, .int .i64 y]) false).run Try.prog w = .ok (.int .i64 0) w := by
  have hc := check_pair x y w
  have hg : (getObj m).run Try.prog w = .ok (.map #[] 0) w := run_getObj_map w m #[] 0 h
  have hu : (underlying 49).run Try.prog w = .ok (.map 54 3) w := by kernel_rfl
  have hz : (zeroValue 3).run Try.prog w = .ok (.int .i64 0) w := by kernel_rfl
  have hk : (Instr.findKey 54 (.agg #[.int .i64 x, .int .i64 y]) []).run Try.prog w = .ok none w := by kernel_rfl
  simp [Instr.lookup, Sem.run_bind, hu, hg, hc, hz, hk, Result.andThen]

theorem apart_none (a b : Int) (n m : Nat) (v : Value) (w : World) (h : NetAt w n m v) (hm : m < w.heap.size) :
    Calls Try.prog 18 #[.pointer (some ⟨n, 0, none⟩), .int .i64 a, .int .i64 b] w fun e w' => e = .returned (.bool false) ∧ Below w.heap.size w w' := by
  have hn := h.1.lt
  have HN := Lib.hid h
  clear h
  go_enter Try.func18, Try.ntmps18
  go_wp2
  refine wp_region_below (B := w.heap.size) (w0 := w) (by kernel_rfl) (by kernel_rfl) (Below.refl _ _) ?_
  go_big_quiet_want; go_big_quiet_op; go_big_quiet_on
  go_big_quiet_want; apply quiet_value; (· (intro w' hw; go_simp; try rfl)); simp only [Act.put, List.setIfInBounds_toArray, List.set_cons_succ, List.set_cons_zero]; go_big_quiet_on
  go_big_quiet_want; apply quiet_value; (· (intro w' hw; go_simp; try rfl)); simp only [Act.put, List.setIfInBounds_toArray, List.set_cons_succ, List.set_cons_zero]; go_big_quiet_on
  go_big_quiet_want; apply quiet_value; (· (intro w' hw; have c1 : w'.cell? ⟨n, 1, none⟩ = some (.map (some m)) := (HN.out.1.below hw hn).cell 1; go_simp; try rfl)); simp only [Act.put, List.setIfInBounds_toArray, List.set_cons_succ, List.set_cons_zero]; go_big_quiet_on
  go_big_quiet_want; go_big_quiet_op; go_big_quiet_on
  go_big_quiet_want; go_big_quiet_op; go_big_quiet_on
  go_big_quiet_want; apply quiet_call (f := 22); (· (intro w hw; go_simp; try rfl)); (· (exact fun w hw => in_below (both_any a b w) hw (Nat.le_refl _))); simp only [Act.put, List.setIfInBounds_toArray, List.set_cons_succ, List.set_cons_zero]; go_big_quiet_on
  go_big_quiet_want; apply quiet_value; (· (intro w' hw; have lk := look_none (min a b) (max a b) m w' ((hw.block m hm).trans HN.out.2.1); go_simp; try rfl)); simp only [Act.put, List.setIfInBounds_toArray, List.set_cons_succ, List.set_cons_zero]; go_big_quiet_on
  go_big_quiet_want; apply quiet_value; (· (intro w' hw; go_simp; try rfl)); simp only [Act.put, List.setIfInBounds_toArray, List.set_cons_succ, List.set_cons_zero]; go_big_quiet_on
  go_big_quiet_want; go_big_quiet_op; go_big_quiet_on
  refine wpQuiet_nil ?_
  intro w2 hb2
  go_wp2
  go_ret
  exact ⟨rfl, hb2⟩
end Go.Proofs.Ytejoggbebmmlkaa
