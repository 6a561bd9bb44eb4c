/- A map of pairs, all of whose elements are 1: look-up, store, clear. Conditions: none. -/
import Derived.Test.YtejoggbebmmlkaaWb
import Derived.Test.YtejoggbebmmlkaaRow
import Derived.MapKept
namespace Go.Proofs.Ytejoggbebmmlkaa
open Go.RowKit

def pairV (p : Int × Int) : Value := .agg #[.int .i64 p.1, .int .i64 p.2]
/-- block m is a map whose keys are the pairs M, each with 1. -/
def MapAt (w : World) (m : Nat) (M : List (Int × Int)) : Prop := ∃ (es : Array MapEntry) (clock : Nat), w.heap[m]? = some (.map es clock) ∧ es.toList.map (fun e => (e.key, e.val)) = M.map fun p => (pairV p, Value.int .i64 1)

theorem equal_pair (p q : Int × Int) (w : World) : (Op.equal 54 (pairV p) (pairV q)).run Try.prog w = .ok (decide (p = q)) w := by
  obtain ⟨a, b⟩ := p
  obtain ⟨c, d⟩ := q
  have hs : Try.prog.underlying 54 = some (.struct (Try.prog.fieldsOf 54)) := by kernel_rfl
  have h1 : (Op.equal 54 (pairV (a, b)) (pairV (c, d))).run Try.prog w = (Op.eqFields 9999 #[.int .i64 a, .int .i64 b] #[.int .i64 c, .int .i64 d] (Try.prog.fieldsOf 54).toList).run Try.prog w :=
    run_equalIn_struct w 9999 54 _ _ hs (by kernel_rfl)
  rw [h1]
  have hf : (Try.prog.fieldsOf 54).toList.map (fun f => (f.name == "_", f.type, f.offset)) = [(false, 3, 0), (false, 3, 1)] := by kernel_rfl
  generalize (Try.prog.fieldsOf 54).toList = fs at hf
  obtain ⟨f, g, rfl⟩ : ∃ f g, fs = [f, g] := by
    have hl := congrArg List.length hf
    simp only [List.length_map, List.length_cons, List.length_nil] at hl
    match fs, hl with
    | [f, g], _ => exact ⟨f, g, rfl⟩
  simp only [List.map_cons, List.map_nil, List.cons.injEq, Prod.mk.injEq, and_true] at hf
  obtain ⟨⟨n1, t1, o1⟩, n2, t2, o2⟩ := hf
  have pa : ∀ (x y : Int) (w : World), (part 3 #[.int .i64 x, .int .i64 y] 0).run Try.prog w = .ok (.int .i64 x) w := fun x y w => by kernel_rfl
  have pb : ∀ (x y : Int) (w : World), (part 3 #[.int .i64 x, .int .i64 y] 1).run Try.prog w = .ok (.int .i64 y) w := fun x y w => by kernel_rfl
  have hi : ∀ (x y : Int) (w : World), (Op.equalIn 9999 3 (.int .i64 x) (.int .i64 y)).run Try.prog w = .ok (x == y) w := fun x y w => run_equalIn_int w 9998 3 .i64 .i64 x y (by kernel_rfl)
  have hn1 : f.name ≠ "_" := by simpa using n1
  have hn2 : g.name ≠ "_" := by simpa using n2
  simp only [Op.eqFields, hn1, hn2, ne_eq, not_false_eq_true, if_true, t1, o1, t2, o2, Sem.run_bind, pa, pb, hi, Result.andThen_ok]
  by_cases hac : a = c
  · subst hac
    by_cases hbd : b = d
    · subst hbd; simp [Sem.run_bind, Result.andThen_ok, pb, hi]
    · simp [Sem.run_bind, Result.andThen_ok, pb, hi, hbd]
  · simp [hac]

theorem find_asking (p : Int × Int) : ∀ (M : List (Int × Int)) (es : List MapEntry) (i : Nat) (w : World), es.map (fun e => (e.key, e.val)) = M.map (fun p => (pairV p, Value.int .i64 1)) →
    (Instr.findAsking 54 (pairV p) es i).run Try.prog w = .ok (if p ∈ M then some (i + M.idxOf p, .int .i64 1) else none) w
  | [], es, i, w, h => by
    have : es = [] := by cases es <;> simp_all
    subst this; rfl
  | q :: M, es, i, w, h => by
    cases es with
    | nil => simp at h
    | cons e es =>
      simp only [List.map_cons, List.cons.injEq, Prod.mk.injEq] at h
      simp only [Instr.findAsking, Sem.run_bind, h.1.1, equal_pair, Result.andThen_ok]
      by_cases hpq : p = q
      · subst hpq
        simp [h.1.2]
      · have ih := find_asking p M es (i + 1) w h.2
        have hqp : (q == p) = false := by simpa using fun e => hpq e.symm
        simp only [hpq, decide_false, Bool.false_eq_true, if_false, ih, List.mem_cons, false_or, List.idxOf_cons, hqp, cond_false]
        by_cases hm : p ∈ M
        · simp only [hm, if_true]
          rw [show i + 1 + M.idxOf p = i + (M.idxOf p + 1) by omega]
        · simp only [hm, if_false]

theorem find_key (p : Int × Int) (M : List (Int × Int)) (es : List MapEntry) (w : World) (h : es.map (fun e => (e.key, e.val)) = M.map (fun p => (pairV p, Value.int .i64 1))) :
    (Instr.findKey 54 (pairV p) es).run Try.prog w = .ok (if p ∈ M then some (M.idxOf p, .int .i64 1) else none) w := by
  have hu : (underlying 54).run Try.prog w = .ok (.struct (Try.prog.fieldsOf 54)) w := by kernel_rfl
  have ha := find_asking p M es 0 w h
  rw [Nat.zero_add] at ha
  cases es with
  | nil =>
    have hM : M = [] := by cases M <;> simp_all
    subst hM
    simp [Instr.findKey, Sem.run_bind, hu, Result.andThen_ok, Instr.findNow]
  | cons e es =>
    have hn : Instr.findNow (.struct (Try.prog.fieldsOf 54)) (pairV p) (e :: es) 0 = none := by rfl
    simp only [Instr.findKey, Sem.run_bind, hu, Result.andThen_ok, hn, ha]

theorem check_pair' (b : Bool) (p : Int × Int) (w : World) : (Instr.checkKey b 10000 54 (pairV p)).run Try.prog w = .ok () w := by
  obtain ⟨x, y⟩ := p
  cases b <;> kernel_rfl

theorem look_pair (p : Int × Int) (m : Nat) (M : List (Int × Int)) (w : World) (h : MapAt w m M) :
    (Instr.lookup 49 (.map (some m)) (pairV p) false).run Try.prog w = .ok (.int .i64 (if p ∈ M then 1 else 0)) w := by
  obtain ⟨es, clock, hm, hk⟩ := h
  have hg : (getObj m).run Try.prog w = .ok (.map es clock) w := run_getObj_map w m es clock hm
  have hu : (underlying 49).run Try.prog w = .ok (.map 54 3) w := by kernel_rfl
  have hz : (zeroValue 3).run Try.prog w = .ok (.int .i64 0) w := by kernel_rfl
  simp only [Instr.lookup, Sem.run_bind, hu, hg, check_pair', find_key p M _ w hk, Result.andThen_ok, Sem.run_pure]
  by_cases hp : p ∈ M
  · simp [hp]
  · simp [hp, hz, Sem.run_bind, Result.andThen_ok]

/-- what a store makes of the keys. -/
def addKey (M : List (Int × Int)) (p : Int × Int) : List (Int × Int) := if p ∈ M then M else M ++ [p]

theorem run_setObj_m {P : Program} {w : World} {r : Nat} {es : Array MapEntry} {clock : Nat} (o : Obj) (hb : w.heap[r]? = some (.map es clock)) : (setObj r o).run P w = .ok () { w with heap := w.heap.setIfInBounds r o } := by
  simp [setObj, Sem.run, hb]
theorem get_set_m {w : World} {m : Nat} (h : m < w.heap.size) (o : Obj) : ({ w with heap := w.heap.setIfInBounds m o } : World).heap[m]? = some o := by simp [h]
theorem grown_obj {w : World} (m : Nat) (o : Obj) : w.grownBy { w with heap := w.heap.setIfInBounds m o } (some m) :=
  ⟨rfl, rfl, rfl, by simp, fun k _ hk => by simp [Array.getElem?_setIfInBounds_ne (show m ≠ k from fun e => hk (by rw [e]))]⟩

theorem put_pair (p : Int × Int) (m : Nat) (M : List (Int × Int)) (w : World) (h : MapAt w m M) :
    ∃ w', (Instr.mapUpdate 49 (.map (some m)) (pairV p) (.int .i64 1)).run Try.prog w = .ok () w' ∧ MapAt w' m (addKey M p) ∧ w.grownBy w' (some m) := by
  obtain ⟨es, clock, hm, hk⟩ := h
  have hg : (getObj m).run Try.prog w = .ok (.map es clock) w := run_getObj_map w m es clock hm
  have hu : (underlying 49).run Try.prog w = .ok (.map 54 3) w := by kernel_rfl
  have hlt : m < w.heap.size := by
    rcases Nat.lt_or_ge m w.heap.size with h' | h'
    · exact h'
    · rw [Array.getElem?_eq_none h'] at hm; cases hm
  simp only [Instr.mapUpdate, Sem.run_bind, hu, hg, check_pair', find_key p M _ w hk, Result.andThen_ok]
  by_cases hp : p ∈ M
  · have hil : M.idxOf p < M.length := List.idxOf_lt_length_of_mem hp
    have hel : es.toList.length = M.length := by have := congrArg List.length hk; simpa using this
    have hie : M.idxOf p < es.size := by rw [← Array.length_toList, hel]; exact hil
    have hkey : (es[M.idxOf p]?.map (·.key)).getD (pairV p) = pairV p := by
      have h1 := congrArg (·[M.idxOf p]?) hk
      simp only [List.getElem?_map, Array.getElem?_toList, List.getElem?_eq_getElem hil, Option.map_some] at h1
      rw [Array.getElem?_eq_getElem hie] at h1 ⊢
      simp only [Option.map_some, Option.some.injEq, Prod.mk.injEq] at h1
      simp only [Option.map_some, Option.getD_some, h1.1, List.getElem_idxOf]
    have hst : (Instr.keyThatStays (pairV p) (pairV p)).run Try.prog w = .ok (pairV p) w := by
      have : Instr.sameBits 10000 (pairV p) (pairV p) = true := by
        obtain ⟨x, y⟩ := p
        simp [Instr.sameBits, pairV]
      simp [Instr.keyThatStays, this]
    simp only [if_pos hp, hkey, hst, Sem.run_bind, Result.andThen_ok]
    refine ⟨_, run_setObj_m _ hm, ⟨_, clock, get_set_m hlt _, ?_⟩, grown_obj _ _⟩
    rw [addKey, if_pos hp, ← hk]
    apply List.ext_getElem?
    intro j
    simp only [List.getElem?_map, Array.getElem?_toList, Array.getElem?_modify]
    by_cases hj : M.idxOf p = j
    · subst hj
      have h1 := congrArg (·[M.idxOf p]?) hk
      simp only [List.getElem?_map, Array.getElem?_toList, List.getElem?_eq_getElem hil, Option.map_some] at h1
      rw [Array.getElem?_eq_getElem hie] at h1 ⊢
      simp only [Option.map_some, Option.some.injEq, Prod.mk.injEq] at h1
      simp only [if_true, Option.map_some, h1.1, h1.2, List.getElem_idxOf]
    · simp only [if_neg hj]
  · simp only [if_neg hp]
    refine ⟨_, run_setObj_m _ hm, ⟨_, _, get_set_m hlt _, ?_⟩, grown_obj _ _⟩
    rw [addKey, if_neg hp]
    simp [hk]

theorem clear_pair (m : Nat) (M : List (Int × Int)) (w : World) (ty : TypeId) (h : MapAt w m M) :
    ∃ w', (Builtin.clear_ #[49] ty #[.map (some m)]).run Try.prog w = .ok (.tuple #[]) w' ∧ MapAt w' m [] ∧ w.grownBy w' (some m) := by
  obtain ⟨es, clock, hm, hk⟩ := h
  have hg : (getObj m).run Try.prog w = .ok (.map es clock) w := run_getObj_map w m es clock hm
  have hu : (underlying 49).run Try.prog w = .ok (.map 54 3) w := by kernel_rfl
  have hlt : m < w.heap.size := by
    rcases Nat.lt_or_ge m w.heap.size with h' | h'
    · exact h'
    · rw [Array.getElem?_eq_none h'] at hm; cases hm
  refine ⟨_, ?_, ⟨#[], clock, get_set_m hlt _, rfl⟩, grown_obj _ _⟩
  simp [Builtin.clear_, Sem.run_bind, hu, hg, Result.andThen_ok, run_setObj_m (.map #[] clock) hm]
theorem map_stays {w w' : World} {m : Nat} {M : List (Int × Int)} (h : MapAt w m M) (hb : w'.heap[m]? = w.heap[m]?) : MapAt w' m M := by
  obtain ⟨es, c, hm, hk⟩ := h
  exact ⟨es, c, hb.trans hm, hk⟩
theorem map_lt {w : World} {m : Nat} {M : List (Int × Int)} (h : MapAt w m M) : m < w.heap.size := by
  obtain ⟨es, c, hm, hk⟩ := h
  rcases Nat.lt_or_ge m w.heap.size with h' | h'
  · exact h'
  · rw [Array.getElem?_eq_none h'] at hm; cases hm
end Go.Proofs.Ytejoggbebmmlkaa
