/- slices.Delete of one packet, in place. Conditions: the row is the call's own. -/
import Derived.Test.YtejoggbebmmlkaaWb
import Derived.Test.YtejoggbebmmlkaaPhase
import Derived.Test.YtejoggbebmmlkaaRow
namespace Go.Proofs.Ytejoggbebmmlkaa
open Go.RowKit

theorem row27 : (Try.prog.info? 27).map (fun i => (i.zero, i.size, i.bytes)) = some (some (.agg #[.int .i64 0, .int .i64 0, .string ⟨#[]⟩]), 3, 32) := by kernel_rfl
theorem elem22 : Try.prog.underlying 22 = some (.slice (Try.prog.elem 22)) := by kernel_rfl
theorem size22 (w : World) : (sizeOf (Try.prog.elem 22)).run Try.prog w = .ok 3 w := by kernel_rfl
def zeroPk : Value := .agg #[.int .i64 0, .int .i64 0, .string ⟨#[]⟩]

theorem zero_one : ∀ u ∈ zeroPk.cells.toList, u.oneCell' = true := by intro u hu; simp [zeroPk, Value.cells] at hu; rcases hu with rfl | rfl | rfl <;> rfl

theorem delete_any (g k q cap base : Nat) (xs : List Value) (w : World) (h : w.ownsRow base 27 3 (.slice (some ⟨g, 0, none⟩) (k + 1 + q) cap) (k + 1 + q) xs) (h1 : ∀ u ∈ xs, u.oneCell' = true) :
    Calls Try.prog 21 #[.slice (some ⟨g, 0, none⟩) (k + 1 + q) cap, .int .i64 (k : Int), .int .i64 ((k : Int) + 1)] w fun e w' => e = .returned (.slice (some ⟨g, 0, none⟩) (k + q) cap) ∧
      w'.ownsRow base 27 3 (.slice (some ⟨g, 0, none⟩) (k + q) cap) (k + q) (xs.take (k * 3) ++ xs.drop ((k + 1) * 3)) ∧ w.grownBy w' (some g) := by
  obtain ⟨i0, hi, hz0, hz1, hz2⟩ := info_parts row27
  have hz : i0.zero = some zeroPk := hz0
  clear hz0
  rcases h.2 with ⟨h0, _⟩ | ⟨g', cap', cur, he, hb, hg, hc, hm, hcs, ht⟩
  · cases h0
  · obtain ⟨rfl, rfl⟩ : g = g' ∧ cap = cap' := by simpa using he
    have hcm : cap ≤ 9223372036854775807 := by unfold maxLen at hm; omega
    have HG := Lib.hid hg
    have HT := Lib.hid ht
    have HZ := Lib.hid hcs
    have hx : xs.length = (k + 1 + q) * 3 := h.1
    have HX := Lib.hid hx
    clear he hg ht hcs h hx
    have s1 : ∀ w : World, (Instr.sliceAt 22 (.slice (some ⟨g, 0, none⟩) (k + 1 + q) cap) (some (.int .i64 (k : Int))) (some (.int .i64 ((k : Int) + 1))) (some (.int .i64 ((k + 1 + q : Nat) : Int)))).run Try.prog w = .ok (.slice (some (if k + 1 + q = k then ⟨g, 0, none⟩ else ⟨g, 0 + k * 3, none⟩)) (k + 1 - k) (k + 1 + q - k)) w :=
      fun w => by have := cut_lhm elem22 size22 g 0 (k + 1 + q) cap w k (k + 1) (k + 1 + q) (by omega) (by omega) (by omega); simpa using this
    have s2 : ∀ w : World, (Instr.sliceAt 22 (.slice (some ⟨g, 0, none⟩) (k + 1 + q) cap) none (some (.int .i64 (k : Int))) none).run Try.prog w = .ok (.slice (some ⟨g, 0, none⟩) k cap) w :=
      fun w => cut_h elem22 size22 g 0 (k + 1 + q) cap w k (by omega)
    obtain ⟨ad, had⟩ : ∃ ad : Addr, ad = (if cap = k + 1 then ⟨g, 0, none⟩ else ⟨g, 0 + (k + 1) * 3, none⟩) := ⟨_, rfl⟩
    have s3 : ∀ w : World, (Instr.sliceAt 22 (.slice (some ⟨g, 0, none⟩) (k + 1 + q) cap) (some (.int .i64 ((k : Int) + 1))) none none).run Try.prog w = .ok (.slice (some ad) q (cap - (k + 1))) w :=
      fun w => by
        have := cut_l elem22 size22 g 0 (k + 1 + q) cap w (k + 1) (by omega)
        rw [← had, show k + 1 + q - (k + 1) = q by omega] at this
        simpa using this
    have s4 : ∀ w : World, (Instr.sliceAt 22 (.slice (some ⟨g, 0, none⟩) (k + q) cap) (some (.int .i64 ((k : Int) + (q : Int)))) (some (.int .i64 ((k : Int) + 1 + (q : Int)))) none).run Try.prog w = .ok (.slice (some ⟨g, (k + q) * 3, none⟩) 1 (cap - (k + q))) w :=
      fun w => by
        have := cut_lh elem22 size22 g 0 (k + q) cap w (k + q) (k + 1 + q) (by omega) (by omega)
        rw [if_neg (show ¬ cap = k + q by omega), show k + 1 + q - (k + q) = 1 by omega, Nat.zero_add] at this
        simpa using this
    have HAD := Lib.hid had
    clear had
    have hne : ((k : Int) == (k : Int) + 1) = false := by simp; omega
    go_enter Try.func21, Try.ntmps21
    go_wp2
    refine wp_region_phase (fun _ => True) [true, true, true, true, true, true, false, false] 7 _ _ _ (by kernel_rfl) rfl rfl (by kernel_rfl) rfl rfl (fun _ _ _ _ _ h => h) (trivial) ?_
    intro S HS
    simp only [taken, leftOut]
    go_big_quiet_want; go_big_quiet_op; go_big_quiet_on
    go_big_quiet_want; go_big_quiet_op; go_big_quiet_on
    go_big_quiet_want; apply quiet_value; (· (intro w' hw; go_simp; try rfl)); simp only [Act.put, List.setIfInBounds_toArray, List.set_cons_succ, List.set_cons_zero]; go_big_quiet_on
    go_big_quiet_want; go_big_quiet_op; go_big_quiet_on
    go_big_quiet_want; go_big_quiet_op; go_big_quiet_on
    go_big_quiet_want; apply quiet_value; (· (intro w' hw; go_simp; try rfl)); simp only [Act.put, List.setIfInBounds_toArray, List.set_cons_succ, List.set_cons_zero]; go_big_quiet_on
    refine wpQuiet_nil ?_
    refine wpTail_more ?_
    have hnews : ∀ j u, (xs.drop ((k + 1) * 3))[j]? = some u → w.drew.cell? (ad.add j) = some u := by
      intro j u hj
      have hx := HX.out
      have hjl : j < (xs.drop ((k + 1) * 3)).length := (List.getElem?_eq_some_iff.1 hj).1
      rw [List.length_drop] at hjl
      have hcap : cap ≠ k + 1 := by omega
      rw [HAD.out, if_neg hcap, Addr.add_lit]
      show w.cell? _ = _
      rw [cell_of_row w g _ cur 27 (0, 0) HG.out, ← hj, List.getElem?_drop, ← HT.out, List.getElem?_take_of_lt (by omega)]
      simp
    have HN := Lib.hid hnews
    have hl : (xs.drop ((k + 1) * 3)).length = q * 3 := by rw [List.length_drop, HX.out]; omega
    have HL := Lib.hid hl
    clear hnews hl
    go_wp2_with (at_builtin; refine wpList_append_in rfl (.tmp 22) (.tmp 25) 22 rfl 27 i0 3 Try.underlying22 hi hz1 g k cap cur HG.out rfl ad q _ (xs.drop ((k + 1) * 3)) rfl HL.out HN.out ?c1 ?c2 ?c3 ?_)
    case c1 => exact fun u hu => h1 u (List.mem_of_mem_drop hu)
    case c2 => omega
    case c3 => rw [HL.out, HZ.out]; omega
    intro new1 hn1
    go_wp2_with fail
    refine ThenS.mk ((HS.out _).2 trivial) ?_
    refine wpTail_last ?_
    have hg1 := Lib.hid (setRow_heap w.drew g cur new1 27 (0, 0) HG.out)
    have hc1 : (k + q) * 3 + 1 * 3 ≤ new1.size := by have := hn1.out.1; rw [this, HZ.out]; omega
    have HC1 := Lib.hid hc1
    clear hc1
    go_wp2_with (with_reducible refine wpList_clear_row rfl (.tmp 31) 22 rfl 27 i0 zeroPk Try.underlying22 hi hz zero_one 3 (by omega) rfl g ((k + q) * 3) 1 _ new1 hg1.out rfl HC1.out ?_; intro new2 hn2)
    go_ret
    refine ⟨rfl, own_setRow hg1.out hb (by omega) hm (by rw [hn2.out.1, hn1.out.1, HZ.out]) ?_ ?_, ?_⟩
    · have := HX.out
      rw [List.length_append, List.length_take, HL.out]; omega
    · have e1 := hn1.out.2
      have hx := HX.out
      rw [show k * 3 + (xs.length - (k + 1) * 3) = (k + q) * 3 by omega] at e1
      rw [hn2.out.2, e1, ← HT.out, List.take_take, Nat.min_eq_left (by omega)]
    · exact grown_setRow (grown_setRow (grown_drew (grown_refl w _)) _) _
end Go.Proofs.Ytejoggbebmmlkaa
