/- platter: what Write's parts do: copy, build. Conditions: none. -/
import Derived.Test.YtdiboicllolcnaaPd
import Derived.Deep.WholeRow
import Derived.Great.BuildSlice
namespace Go.Proofs.Ytdiboicllolcnaa
open Go Go.RowKit
set_option linter.unusedVariables false
set_option linter.unusedSimpArgs false
variable {w w' : World} {base n : Nat} {V V' V'' : Vs} {D : Dk}

/-- bytes that lie in memory. -/
def Bys (w : World) (ad : Option Addr) (len : Nat) (b : Sec) : Prop :=
  b.length = len ∧ len ≤ maxLen ∧ (len = 0 ∨ ∃ g off, ad = some ⟨g, off, none⟩ ∧ g < w.heap.size ∧ ∀ j v, (bc b)[j]? = some v → w.cell? ⟨g, off + j, none⟩ = some v)
theorem Bys.stays {ad : Option Addr} {len : Nat} {b : Sec} (h : Bys w ad len b) (hk : ∀ g off, ad = some ⟨g, off, none⟩ → g < w.heap.size → w'.heap[g]? = w.heap[g]?) (hs : w.heap.size ≤ w'.heap.size) : Bys w' ad len b := by
  refine ⟨h.1, h.2.1, h.2.2.imp id ?_⟩
  rintro ⟨g, off, rfl, hg, hc⟩
  refine ⟨g, off, rfl, by omega, fun j v hj => ?_⟩
  have := hc j v hj
  unfold World.cell? at this ⊢
  rw [hk g off rfl hg]; exact this
theorem Bys.bel {ad : Option Addr} {len : Nat} {b : Sec} (h : Bys w ad len b) (hb : Below w.heap.size w w') : Bys w' ad len b := h.stays (fun g _ _ hg => hb.block g hg) hb.size
def pad (b : Sec) : Sec := b ++ List.replicate (64 - b.length) 0
theorem pad_len {b : Sec} (h : b.length ≤ 64) : (pad b).length = 64 := by simp [pad]; omega
theorem bc_zeros : bc (List.replicate 64 0) = zeros.toList := rfl
theorem bc_app (a b : Sec) : bc (a ++ b) = bc a ++ bc b := by simp [bc]
theorem bc_pad {b : Sec} (h : b.length ≤ 64) : bc (pad b) = bc b ++ zeros.toList.drop b.length := by
  rw [pad, bc_app, ← bc_zeros]
  congr 1
  simp only [bc, List.map_replicate, List.drop_replicate]
theorem isz5 : (Try.prog.info? 5).map (·.size) = some 1 := by kernel_rfl
theorem copy_in {ad : Option Addr} {len : Nat} {b : Sec} (w0 : World) (hB : Bys w0 ad len b) (h64 : len ≤ 64) (cap : Nat) :
    (Builtin.copy_ #[32, 32] 3 #[.slice (some ⟨w0.heap.size, 0, none⟩) 64 64, .slice ad len cap]).run Try.prog (w0.alloc (.cells zeros 81)) = .ok (goInt len) (w0.alloc (.cells (bc (pad b)).toArray 81)) := by
  obtain ⟨hl, _, hc⟩ := hB
  rcases hc with rfl | ⟨g, off, rfl, hg, hc⟩
  · have hb : b = [] := by simpa using hl
    subst hb
    rw [run_copy_none _ 32 32 3 5 _ _ _ _ _ _ Try.underlying32 isz5 (by simp)]
    rfl
  · have hn : (bc b).length = Nat.min len 64 * 1 := by rw [bc_len, hl, Nat.mul_one]; exact (Nat.min_eq_left h64).symm
    have h0 := run_copy_rowK (P := Try.prog) (w0.alloc (.cells zeros 81)) 32 32 3 5 1 w0.heap.size 0 64 64 ⟨g, off, none⟩ len cap zeros 81 (bc b) Try.underlying32 isz5 (heap_alloc_new w0 _) hn
      (fun j v hj => by
        rw [Addr.add_mid]
        have := hc j v hj
        unfold World.cell? at this ⊢
        rw [Below.heap_alloc w0 _ g hg]; exact this) (by rw [zeros_size, bc_len]; omega) (bc_one b)
    rw [h0]
    simp only [List.take_zero, List.nil_append, Nat.zero_add]
    rw [World.setRow_alloc_new, bc_pad (by omega), bc_len, show Nat.min len 64 = len from Nat.min_eq_left h64]

theorem fold_off (off : Nat) : ∀ (vs : List Value) (i : Nat) (C : Array Value), off + i + vs.length ≤ C.size → (vs.zipIdx i).foldl (fun C x => C.setIfInBounds (off + x.2) x.1) C = (C.toList.take (off + i) ++ vs ++ C.toList.drop (off + i + vs.length)).toArray := by
  intro vs
  induction vs with
  | nil => intro i C h; simp
  | cons v vs ih =>
    intro i C h
    rw [List.length_cons] at h
    rw [List.zipIdx_cons, List.foldl_cons, ih _ _ (by simp; omega)]
    congr 1
    simp only [Array.toList_setIfInBounds]
    rw [show off + (i + 1) = off + i + 1 by omega, List.take_add_one, List.take_set_of_le (Nat.le_refl _), List.getElem?_set_self (by simp; omega), List.drop_set_of_lt (by omega), List.length_cons, show off + i + 1 + vs.length = off + i + (vs.length + 1) by omega]
    simp
theorem fill_one (place : Nat → Option (Nat × Nat)) (C : Array Value) (i : Nat) (v : Value) (off : Nat) (rest : List (Nat × Value)) (hp : place i = some (off, v.cells.size)) (hf : off + v.cells.size ≤ C.size) :
    Instr.fill place C ((i, v) :: rest) = Instr.fill place (C.toList.take off ++ v.cells.toList ++ C.toList.drop (off + v.cells.size)).toArray rest := by
  have h0 : ¬ (off + v.cells.size > C.size) := by omega
  have h1 := fold_off off v.cells.toList 0 C (by simpa using hf)
  simp only [Nat.add_zero, Array.length_toList] at h1
  rw [← h1]
  conv => lhs; unfold Instr.fill
  rw [hp]
  simp only [ne_eq, not_true_eq_false, decide_false, h0, Bool.or_self, Bool.false_eq_true, if_false]
  rw [← Array.foldl_toList, Array.toList_zipIdx]
theorem drop_wc {x : Wr} (h : x.2.length = 64) (l : List Value) (hl : l.length = 65) : l.drop (1 + (bc x.2).length) = [] := List.drop_of_length_le (by rw [bc_len]; omega)
def ztail : List Value := (Value.int .i64 0) :: zeros.toList
theorem info68 : ∃ i, Try.prog.info? 83 = some i ∧ i.zero = some (.agg ztail.toArray) ∧ i.size = 65 := by
  have h : (Try.prog.info? 83).map (fun i => (i.zero, i.size)) = some (some (.agg ztail.toArray), 65) := by kernel_rfl
  obtain ⟨i, hi, h2⟩ := Option.map_eq_some_iff.1 h
  simp only [Prod.mk.injEq] at h2
  exact ⟨i, hi, h2.1, h2.2⟩
theorem agg_cells (c : Array Value) : (Value.agg c).cells = c := rfl
theorem build_w (x : Wr) (h : x.2.length = 64) (w : World) : (Instr.build 83 #[(0, .int .i64 (x.1 : Int)), (1, .agg (bc x.2).toArray)]).run Try.prog w = .ok (.agg (wc x).toArray) w := by
  refine run_build w 83 _ _ ?_
  obtain ⟨i, hi, hz, hs⟩ := info68
  obtain ⟨fs, hu, hp⟩ : ∃ fs, Try.prog.underlying 83 = some (.struct fs) ∧ fs.toList.mapM (fun f => (Try.prog.info? f.type).map fun i => (f.offset, i.size)) = some [(0, 1), (1, 64)] := ⟨_, Try.underlying83, by kernel_rfl⟩
  unfold Program.built
  rw [hi, hu]
  simp only [hz, hp]
  have c0 : (Value.int .i64 (x.1 : Int)).cells.size = 1 := rfl
  rw [fill_one _ _ 0 (.int .i64 (x.1 : Int)) 0 _ (by rfl) (by rw [c0, agg_cells]; decide), fill_one _ _ 1 (.agg (bc x.2).toArray) 1 _ (by rw [agg_cells]; simp [bc_len, h]) (by rw [agg_cells, agg_cells, c0]; simp [bc_len, h, ztail]; exact Nat.le_refl 65)]
  simp only [Instr.fill, agg_cells, c0, Option.some.injEq]
  have e1 : (Value.int .i64 (x.1 : Int)).cells.toList = [Value.int .i64 (x.1 : Int)] := rfl
  rw [e1]
  simp only [List.take_zero, List.nil_append, ztail, Nat.zero_add, List.drop_succ_cons, List.drop_zero]
  simp [wc, bc_len, h]
  exact Nat.le_of_eq zeros_size
theorem buildS_w (x : Wr) (h : x.2.length = 64) (w : World) : (Instr.buildSlice 76 1 #[(0, .agg (wc x).toArray)]).run Try.prog w = .ok (.slice (some ⟨w.heap.size, 0, none⟩) 1 1) (w.alloc (.cells (wc x).toArray 83)) := by
  obtain ⟨i, hi, hz, hs⟩ := info68
  refine run_buildSlice w 76 83 1 _ _ i _ Try.underlying76 hi hz (by rw [hs]; decide) (by rw [hs]; decide) ?_
  rw [hs, agg_cells]
  rw [fill_one _ _ 0 (.agg (wc x).toArray) 0 _ (by rw [agg_cells]; simp [wc_len, h]) (by rw [agg_cells]; simp [wc_len, h])]
  simp only [Instr.fill, agg_cells, Option.some.injEq]
  simp [wc_len, h]
end Go.Proofs.Ytdiboicllolcnaa
