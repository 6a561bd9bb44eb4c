/-
  How arguments of a law are opened: slices of bytes as lists of numbers; bounds on their lengths. Conditions: none.
-/
import Derived.Test.YtadgnemfjmiafaaRows
import Derived.WalkKit
import Derived.ProofKit
import Derived.OpenShut
import Derived.ShutString
import Derived.ChangeOld
import Derived.Below
import Derived.SizedLaws
import Derived.JoinedCond
import Derived.Deep.CondSized
namespace Go.Proofs.Ytadgnemfjmiafaa
open Go.ChangeShapes Go.WideShapes Go.ChangeAt Go.RowKit

theorem own : ownKnob Try.prog.godebug = none := by kernel_rfl
theorem laidOut : laidOutB Try.prog = true := by kernel_rfl

/-- A slice of integers in memory: its elements. -/
def Ints (k : IntKind) (w : World) (a : Option Addr) (len : Nat) (zs : List Int) : Prop :=
  zs.length = len ∧ (∀ n ∈ zs, (Lit.int k n).wf = true) ∧ len ≤ maxLen ∧ (len = 0 ∨ ∃ b off, a = some ⟨b, off, none⟩ ∧ ∀ i, i < len → w.cell? ⟨b, off + i, none⟩ = some (.int k (zs.getD i 0)))

theorem open_Ints {H : Type} {enc : TypeId × Value → H} {W : World} {t e : TypeId} {k : IntKind} {a : Option Addr} {len cap : Nat} {d : DataW H} {p : List MemPlace}
    (ht : Try.prog.underlying t = some (.slice e)) (he : Try.prog.underlying e = some (.int k)) (hc : Try.prog.cellsOf e = 1)
    (h : DataW.Trod enc Try.prog W 0 (fun _ => true) true t (.slice a len cap) d p) :
    ∃ zs : List Int, Ints k W a len zs ∧ ((d = .nil ∧ len = 0 ∧ cap = 0 ∧ a = none) ∨ ∃ el sp, d = .slice el sp ∧ el.length = len) ∧ len ≤ cap := by
  obtain ⟨fuel, hf⟩ := h
  rcases open_ints ht he hc hf with ⟨hcs, hx⟩ | ⟨x, l, c, zs, hcs, _, hl, hm, hz, hx, hcell, hwz⟩
  · simp [Value.cells] at hcs
    obtain ⟨rfl, rfl, rfl⟩ := hcs
    exact ⟨[], ⟨rfl, by simp, Nat.zero_le _, .inl rfl⟩, .inl ⟨congrArg Prod.fst hx, rfl, rfl, rfl⟩, Nat.le_refl _⟩
  · simp [Value.cells] at hcs
    obtain ⟨rfl, rfl, rfl⟩ := hcs
    simp at hz
    refine ⟨zs.take len, ⟨by simp; omega, fun n hn => hwz n (List.mem_of_mem_take hn), by omega, ?_⟩, .inr ⟨_, _, congrArg Prod.fst hx, ?_⟩, hl⟩
    · by_cases h0 : len = 0
      · exact .inl h0
      · right
        obtain ⟨b, off, spot⟩ := x
        have hc0 := hcell 0 (by omega)
        have hspot : spot = none := by simpa [Addr.add] using World.cell?_spot hc0
        subst hspot
        refine ⟨b, off, rfl, fun i hi => ?_⟩
        have : W.cell? ⟨b, off + i, none⟩ = some (.int k (zs.getD i 0)) := by
          have := hcell i (by omega)
          by_cases hi0 : i = 0
          · subst hi0; simpa [Addr.add] using this
          · simpa [Addr.add, hi0] using this
        rw [this]
        simp [List.getD, hi]
    · simp [lits]; omega

theorem one_le {H : Type} (d : DataW H) : 1 ≤ Rows.uptoBulk d := by
  cases d with
  | lit l => cases l <;> simp [Rows.uptoBulk]
  | nil => simp [Rows.uptoBulk]
  | ptr d => simp [Rows.uptoBulk]
  | slice elems spare => simp [Rows.uptoBulk]
  | agg parts => simp [Rows.uptoBulk]
  | iface t d => simp [Rows.uptoBulk]
  | map entries => simp [Rows.uptoBulk]
  | held h => simp [Rows.uptoBulk]
theorem part_le {H : Type} {d : DataW H} {l : List (DataW H)} (h : d ∈ l) : Rows.uptoBulk d ≤ Rows.uptoBulkAll l := by
  induction l with
  | nil => cases h
  | cons x r ih =>
    simp only [Rows.uptoBulkAll]
    cases List.mem_cons.1 h with
    | inl e => subst e; omega
    | inr e => have := ih e; omega
theorem length_le {H : Type} (l : List (DataW H)) : l.length ≤ Rows.uptoBulkAll l := by
  induction l with
  | nil => simp [Rows.uptoBulkAll]
  | cons x r ih => have := one_le x; simp only [Rows.uptoBulkAll, List.length_cons]; omega
theorem small_bound {H : Type} {l : List (DataW H)} (hk : Rows.uptoSmall H l = true) : Rows.uptoBulkAll l ≤ 1048576 := by
  simpa [Rows.uptoSmall] using hk
theorem small_slice {H : Type} {ds : List (DataW H)} {j : Nat} {d : DataW H} {len cap : Nat} {a : Option Addr} (hk : Rows.uptoSmall H ds = true) (hd : ds[j]? = some d)
    (h : (d = .nil ∧ len = 0 ∧ cap = 0 ∧ a = none) ∨ ∃ el sp, d = .slice el sp ∧ el.length = len) : len ≤ 1048576 := by
  rcases h with ⟨_, rfl, _, _⟩ | ⟨el, sp, rfl, rfl⟩
  · omega
  · have h1 := part_le (List.mem_of_getElem? hd)
    have h2 := small_bound hk
    have h3 := length_le el
    simp only [Rows.uptoBulk] at h1
    omega
theorem reach_slice {H : Type} {ts : List TypeId} {ds : List (DataW H)} {j t e : Nat} {d : DataW H} {len cap bytes : Nat} {a : Option Addr} (hz : (DataW.weightsEach Try.prog ts ds).all (· ≤ reachBytes) = true)
    (ht : ts[j]? = some t) (hd : ds[j]? = some d) (hu : Try.prog.underlying t = some (.slice e)) (hb : Try.prog.bytesOf e = bytes)
    (h : (d = .nil ∧ len = 0 ∧ cap = 0 ∧ a = none) ∨ ∃ el sp, d = .slice el sp ∧ el.length = len) : len * bytes ≤ 140737488351232 := by
  rcases h with ⟨_, rfl, _, _⟩ | ⟨el, sp, rfl, rfl⟩
  · omega
  · have h1 := sized_slice hz ht hd hu
    rw [hb] at h1
    have h2 : reachBytes = 140737488351232 := by decide
    rw [h2] at h1
    refine Nat.le_trans (Nat.mul_le_mul_right _ (by omega)) h1

theorem part_small {H : Type} {ds : List (DataW H)} {j : Nat} {d : DataW H} (hk : Rows.uptoSmall H ds = true) (hd : ds[j]? = some d) : Rows.uptoBulk d ≤ 1048576 :=
  Nat.le_trans (part_le (List.mem_of_getElem? hd)) (small_bound hk)
theorem part_reach {H : Type} {ts : List TypeId} {ds : List (DataW H)} {j t : Nat} {d : DataW H} (hz : (DataW.weightsEach Try.prog ts ds).all (· ≤ reachBytes) = true)
    (ht : ts[j]? = some t) (hd : ds[j]? = some d) : ∀ n ∈ d.weights Try.prog t, n ≤ 140737488351232 := by
  intro n hn
  have := List.all_eq_true.1 hz _ (DataW.weights_mem_each ht hd n hn)
  have h2 : reachBytes = 140737488351232 := by decide
  rw [h2] at this
  simpa using this
theorem small_string {H : Type} {ds : List (DataW H)} {j : Nat} {s : ByteArray} (hk : Rows.uptoSmall H ds = true) (hd : ds[j]? = some (.lit (.string s.data.toList))) : s.size ≤ 1048576 := by
  have := part_small hk hd
  simp only [Rows.uptoBulk] at this
  have e : s.data.toList.length = s.size := by rw [Array.length_toList]; rfl
  omega
theorem reach_string {H : Type} {ts : List TypeId} {ds : List (DataW H)} {j t : Nat} {s : ByteArray} (hz : (DataW.weightsEach Try.prog ts ds).all (· ≤ reachBytes) = true)
    (ht : ts[j]? = some t) (hd : ds[j]? = some (.lit (.string s.data.toList))) : s.size ≤ 140737488351232 := by
  have h1 := sized_string hz ht hd
  have h2 : reachBytes = 140737488351232 := by decide
  rw [h2] at h1
  have e : s.data.toList.length = s.size := by rw [Array.length_toList]; rfl
  omega

end Go.Proofs.Ytadgnemfjmiafaa
