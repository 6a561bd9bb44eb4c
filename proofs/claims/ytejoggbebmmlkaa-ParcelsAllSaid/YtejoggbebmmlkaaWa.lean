/- parcels: both, New. Conditions: none. -/
import Derived.Test.YtejoggbebmmlkaaOpen
import Derived.Test.YtejoggbebmmlkaaOwn
import Derived.Test.YtejoggbebmmlkaaTouch
import Derived.Test.YtejoggbebmmlkaaQB
import Derived.Lib.Hide
namespace Go.Proofs.Ytejoggbebmmlkaa
open Go.RowKit

theorem both_any (a b : Int) (w : World) : Calls Try.prog 22 #[.int .i64 a, .int .i64 b] w fun e w' => e = .returned (.agg #[.int .i64 (min a b), .int .i64 (max a b)]) ∧ Below w.heap.size w w' := by
  have hB : ∀ o, Below w.heap.size w (w.alloc o) := fun o => (Below.refl _ _).alloc (Nat.le_refl _) o
  rcases Int.lt_trichotomy a b with h | rfl | h
  · have h1 : ¬ b < a := by omega
    have h2 : ¬ b ≤ a := by omega
    have h3 : a ≤ b := by omega
    have e1 : min a b = a := by omega
    have e2 : max a b = b := by omega
    rw [e1, e2]
    clear e1 e2
    go_enter Try.func22, Try.ntmps22
    go_wp2
    exact bodyPost_ret (v := .agg #[.int .i64 a, .int .i64 b]) (by simp [results, Try.results22, go_sem]) rfl ⟨rfl, hB _⟩
  · have h1 : ¬ a < a := by omega
    have e1 : min a a = a := by omega
    have e2 : max a a = a := by omega
    rw [e1, e2]
    clear e1 e2
    go_enter Try.func22, Try.ntmps22
    go_wp2
    exact bodyPost_ret (v := .agg #[.int .i64 a, .int .i64 a]) (by simp [results, Try.results22, go_sem]) rfl ⟨rfl, hB _⟩
  · have h1 : ¬ a < b := by omega
    have h2 : ¬ a ≤ b := by omega
    have h3 : b ≤ a := by omega
    have e1 : min a b = b := by omega
    have e2 : max a b = a := by omega
    rw [e1, e2]
    clear e1 e2
    go_enter Try.func22, Try.ntmps22
    go_wp2
    exact bodyPost_ret (v := .agg #[.int .i64 b, .int .i64 a]) (by simp [results, Try.results22, go_sem]) rfl ⟨rfl, hB _⟩

/-- a net's two cells, and its map of pairs, which is empty. -/
def NetAt (w : World) (n m : Nat) (v : Value) : Prop := Box w n 51 #[v, .map (some m)] ∧ w.heap[m]? = some (.map #[] 0) ∧ m ≠ n

theorem new_any (w : World) : Calls Try.prog 8 #[] w fun e w' => e = .returned (.pointer (some ⟨w.heap.size + 1, 0, none⟩)) ∧ NetAt w' (w.heap.size + 1) w.heap.size (.slice none 0 0) ∧ Below w.heap.size w w' := by
  have hmm := @run_makeMap Try.prog
  have hb := Box.new (w.alloc (.map #[] 0)) 51 #[.slice none 0 0, .map (some w.heap.size)]
  simp only [World.size_alloc] at hb
  have hm : ((w.alloc (.map #[] 0)).alloc (.cells #[.slice none 0 0, .map (some w.heap.size)] 51)).heap[w.heap.size]? = some (.map #[] 0) :=
    (Below.heap_alloc _ _ _ (by simp)).trans (heap_alloc_new w _)
  have HB := Lib.hid hb
  have HM := Lib.hid hm
  clear hb hm
  go_enter Try.func8, Try.ntmps8
  go_wp2
  go_ret
  exact ⟨rfl, ⟨HB.out, HM.out, by omega⟩, ((Below.refl _ _).alloc (Nat.le_refl _) _).alloc (by simp) _⟩
end Go.Proofs.Ytejoggbebmmlkaa
