/- platter: New. Conditions: none. -/
import Derived.Test.YtdiboicllolcnaaPc
import Derived.Laws.MakeOwn
namespace Go.Proofs.Ytdiboicllolcnaa
open Go Go.RowKit
set_option linter.unusedVariables false
set_option linter.unusedSimpArgs false
variable {w w' : World} {base n : Nat} {V V' V'' : Vs} {D : Dk}

def zsec : Sec := List.replicate 64 0
def zrow (c : Nat) : Array Value := (secCells (List.replicate c zsec)).toArray
theorem made_z (c : Nat) : madeCells zeros (c * 64) = zrow c := by
  have h1 : secCells (List.replicate c zsec) = List.replicate (c * 64) (.int .u8 0) := by
    induction c with
    | zero => rfl
    | succ c ih =>
      rw [List.replicate_succ]
      unfold secCells at ih ⊢
      rw [List.flatMap_cons, ih, Nat.succ_mul, Nat.add_comm, ← List.replicate_append_replicate]
      rfl
  unfold zrow
  rw [h1]
  apply Array.ext
  · simp [madeCells]
  · intro i h1 h2
    have hz : ∀ j, j < 64 → zeros[j]! = .int .u8 0 := by
      intro j hj
      have e : zeros = Array.replicate 64 (.int .u8 0) := rfl
      rw [e, getElem!_pos _ j (by simpa using hj), Array.getElem_replicate]
    simp only [madeCells, Array.getElem_map, Array.getElem_range, List.getElem_toArray, List.getElem_replicate]
    rw [zeros_size]; exact hz _ (Nat.mod_lt _ (by decide))
theorem mk_z (c : Nat) (hc : c ≤ 65536) (w : World) : (Instr.makeSlice 75 (.int .i64 (c : Int)) (.int .i64 (c : Int))).run Try.prog w = .ok (.slice (some ⟨w.heap.size, 0, none⟩) c c) (w.alloc (.cells (zrow c) 81)) := by
  obtain ⟨i, hi, hz, hs, hb⟩ : ∃ i, Try.prog.info? 81 = some i ∧ i.zero = some (.agg zeros) ∧ i.size = 64 ∧ i.bytes = 64 := by
    have h : (Try.prog.info? 81).map (fun i => (i.zero, i.size, i.bytes)) = some (some (.agg zeros), 64, 64) := by kernel_rfl
    obtain ⟨i, hi, h2⟩ := Option.map_eq_some_iff.1 h
    simp only [Prod.mk.injEq] at h2
    exact ⟨i, hi, h2.1, h2.2.1, h2.2.2⟩
  have := run_make (P := Try.prog) w 75 81 i _ Try.underlying75 hi hz .i64 .i64 c c (by omega) (Int.le_refl _) (by rw [hb]; omega) (by omega)
  rw [hs] at this
  simp only [Int.toNat_natCast] at this
  rw [this]
  have : (Value.agg zeros).cells = zeros := by kernel_rfl
  rw [this, made_z]
def newD (m : Int) : Dk := let k := (min (max m 0) 65536).toNat; { now := List.replicate k zsec, firm := List.replicate k zsec, wait := [], armed := 0, dead := false }
theorem new_core (c : Nat) (a b : Nat) (hab : a = w.heap.size ∧ b = w.heap.size + 1 ∨ a = w.heap.size + 1 ∧ b = w.heap.size) (hc : c ≤ 65536) :
    Dsk (((w.alloc (.cells (zrow c) 81)).alloc (.cells (zrow c) 81)).alloc (.cells #[.slice (some ⟨a, 0, none⟩) c c, .slice (some ⟨b, 0, none⟩) c c, .slice none 0 0, .int .i64 0, .bool false] 78)) w.heap.size (w.heap.size + 2)
      ⟨.slice (some ⟨a, 0, none⟩) c c, .slice (some ⟨b, 0, none⟩) c c, .slice none 0 0⟩ { now := List.replicate c zsec, firm := List.replicate c zsec, wait := [], armed := 0, dead := false } := by
  have hz : (zrow c).toList = secCells (List.replicate c zsec) := by simp [zrow]
  have hl : (secCells (List.replicate c zsec)).length = c * 64 := by
    have := fm_len bc 64 (List.replicate c zsec) (fun s hs => by rw [(List.mem_replicate.1 hs).2]; rfl)
    simpa [secCells] using this
  have hw : ∀ k, k = w.heap.size ∨ k = w.heap.size + 1 → (((w.alloc (.cells (zrow c) 81)).alloc (.cells (zrow c) 81)).alloc (.cells #[.slice (some ⟨a, 0, none⟩) c c, .slice (some ⟨b, 0, none⟩) c c, .slice none 0 0, .int .i64 0, .bool false] 78)).ownsRow w.heap.size 81 64 (.slice (some ⟨k, 0, none⟩) c c) (List.replicate c zsec).length (secCells (List.replicate c zsec)) := by
    intro k hk
    rw [List.length_replicate]
    refine ⟨hl, .inr ⟨k, c, zrow c, rfl, by omega, ?_, Nat.le_refl _, by simp [maxLen]; omega, by rw [← hl]; simp [zrow], by rw [hz, List.take_of_length_le (by omega)]⟩⟩
    have h0 : Box ((w.alloc (.cells (zrow c) 81)).alloc (.cells (zrow c) 81)) k 81 (zrow c) := by
      rcases hk with rfl | rfl
      · exact (Box.new w 81 (zrow c)).alloc _
      · have := Box.new (w.alloc (.cells (zrow c) 81)) 81 (zrow c); simpa using this
    exact h0.alloc _
  refine ⟨?_, hw _ (by omega), hw _ (by omega), ?_, by omega, ?_⟩
  · have := Box.new ((w.alloc (.cells (zrow c) 81)).alloc (.cells (zrow c) 81)) 78 #[.slice (some ⟨a, 0, none⟩) c c, .slice (some ⟨b, 0, none⟩) c c, .slice none 0 0, .int .i64 0, .bool false]
    simpa using this
  · exact World.ownsRow_nil _ _ _ _
  · intro k hk he
    have h1 : a = k := by simpa [Value.ownBlock] using hk
    have h2 : b = k := by simpa [Value.ownBlock] using he
    omega
theorem new_fin (m : Int) (c a b : Nat) (hab : a = w.heap.size ∧ b = w.heap.size + 1 ∨ a = w.heap.size + 1 ∧ b = w.heap.size) (hc : c = (min (max m 0) 65536).toNat) :
    ∃ n V, Ending.returned (.pointer (some ⟨w.heap.size + 1 + 1, 0, none⟩)) = .returned (.pointer (some ⟨n, 0, none⟩)) ∧ Dsk (((w.alloc (.cells (zrow c) 81)).alloc (.cells (zrow c) 81)).alloc (.cells #[.slice (some ⟨a, 0, none⟩) c c, .slice (some ⟨b, 0, none⟩) c c, .slice none 0 0, .int .i64 0, .bool false] 78)).drew w.heap.size n V (newD m) ∧
      Below w.heap.size w (((w.alloc (.cells (zrow c) 81)).alloc (.cells (zrow c) 81)).alloc (.cells #[.slice (some ⟨a, 0, none⟩) c c, .slice (some ⟨b, 0, none⟩) c c, .slice none 0 0, .int .i64 0, .bool false] 78)).drew := by
  refine ⟨_, ⟨.slice (some ⟨a, 0, none⟩) c c, .slice (some ⟨b, 0, none⟩) c c, .slice none 0 0⟩, rfl, Dsk.drew ?_, ((((Below.refl _ w).alloc (Nat.le_refl _) _).alloc (by simp) _).alloc (by simp; omega) _).drew⟩
  have := new_core (w := w) c a b hab (by omega)
  unfold newD
  rw [← hc]
  exact this
set_option maxHeartbeats 1000000 in
theorem new_any (m : Int) : Calls Try.prog 15 #[.int .i64 m] w fun e w' => ∃ n V, e = .returned (.pointer (some ⟨n, 0, none⟩)) ∧ Dsk w' w.heap.size n V (newD m) ∧ Below w.heap.size w w' := by
  by_cases h0 : m < 0
  · have H0 : ∀ w, (Instr.makeSlice 75 (.int .i64 0) (.int .i64 0)).run Try.prog w = .ok (.slice (some ⟨w.heap.size, 0, none⟩) 0 0) (w.alloc (.cells (zrow 0) 81)) := mk_z 0 (by omega)
    have hn : ¬ 65536 < (if m < 0 then 0 else m) := by rw [if_pos h0]; omega
    go_enter Try.func15, Try.ntmps15
    go_wp2
    all_goals first | omega | skip
    all_goals go_region
    all_goals (go_wp2; go_ret)
    all_goals first | exact new_fin _ 0 _ _ (.inl ⟨rfl, rfl⟩) (by omega) | exact new_fin _ 0 _ _ (.inr ⟨rfl, rfl⟩) (by omega)
  · by_cases h1 : m ≤ 65536
    · obtain ⟨c, rfl⟩ := Int.eq_ofNat_of_zero_le (Int.not_lt.1 h0)
      have H0 := mk_z c (by omega)
      go_enter Try.func15, Try.ntmps15
      go_wp2
      all_goals first | omega | skip
      all_goals go_region
      all_goals (go_wp2; go_ret)
      all_goals first | exact new_fin _ c _ _ (.inl ⟨rfl, rfl⟩) (by omega) | exact new_fin _ c _ _ (.inr ⟨rfl, rfl⟩) (by omega)
    · have H0 : ∀ w, (Instr.makeSlice 75 (.int .i64 65536) (.int .i64 65536)).run Try.prog w = .ok (.slice (some ⟨w.heap.size, 0, none⟩) 65536 65536) (w.alloc (.cells (zrow 65536) 81)) := mk_z 65536 (by omega)
      go_enter Try.func15, Try.ntmps15
      go_wp2
      all_goals first | omega | skip
      all_goals go_region
      all_goals (go_wp2; go_ret)
      all_goals first | exact new_fin _ 65536 _ _ (.inl ⟨rfl, rfl⟩) (by omega) | exact new_fin _ 65536 _ _ (.inr ⟨rfl, rfl⟩) (by omega)
end Go.Proofs.Ytdiboicllolcnaa
