/-
  Structs of many cells in a box: a load, a store, what a call hands back: by laws, not cell by cell. Conditions: none (plain lemmas over the program).
-/
import Derived.Test.YtbkjhogfpcmcbaaDoorTouch
import Derived.Test.YtbkjhogfpcmcbaaDoorQB
import Derived.Deep.MidRow
namespace Go.Proofs.YtbkjhogfpcmcbaaDoor
open Go Go.RowKit
section
variable {P : Program} {ops : Array Oper} {rest : List Oper} {op : Oper} {a : Act} {w : World} {Q : Exit → Act → World → Prop}

theorem Box.range {b : Nat} {T : TypeId} {cs : Array Value} (h : Box w b T cs) (off : Nat) (vs : List Value) (hvs : (cs.toList.drop off).take vs.length = vs) : w.rangeAt b off vs := by
  intro j v hj
  rw [h.cell, ← Array.getElem?_toList]
  rw [← hvs, List.getElem?_take] at hj
  split at hj
  · rwa [List.getElem?_drop] at hj
  · cases hj
theorem wpList_load_box (hgd : op.guard = none) (ty : TypeId) (x : Operand) (ho : op.op = .load ty x) (b off : Nat) (hx : a.eval x = .pointer (some ⟨b, off, none⟩)) {T : TypeId} {cs : Array Value} (hb : Box w b T cs)
    (vs : List Value) (hvs : (cs.toList.drop off).take vs.length = vs) {d : TypeDesc} (hu : P.underlying ty = some d) (hd : d.isRow = true) (hi : (P.info? ty).map (·.size) = some vs.length)
    (h : wpList P ops Q rest (a.put op.dst (.agg vs.toArray)) w) : wpList P ops Q (op :: rest) a w :=
  wpList_load_mid hgd ty x ho b off hx vs d (hb.range off vs hvs) hu hd hi h
theorem load_box_val (ty : TypeId) (x : Operand) (ho : op.op = .load ty x) (b off : Nat) (hx : a.eval x = .pointer (some ⟨b, off, none⟩)) {T : TypeId} {cs : Array Value} (hb : Box w b T cs)
    (vs : List Value) (hvs : (cs.toList.drop off).take vs.length = vs) {d : TypeDesc} (hu : P.underlying ty = some d) (hd : d.isRow = true) (hi : (P.info? ty).map (·.size) = some vs.length) :
    (execOp a.eval op).run P w = .ok (.value (.agg vs.toArray)) w := by
  unfold execOp
  simp only [ho, hx, Instr.loadAt, Instr.sureAddr, Sem.run_bind, Sem.run_pure, Result.andThen_ok, run_loadVar_mid w b off ty vs d (hb.range off vs hvs) hu hd hi]
theorem load_range_val (ty : TypeId) (x : Operand) (ho : op.op = .load ty x) (b off : Nat) (hx : a.eval x = .pointer (some ⟨b, off, none⟩))
    (vs : List Value) (hr : w.rangeAt b off vs) {d : TypeDesc} (hu : P.underlying ty = some d) (hd : d.isRow = true) (hi : (P.info? ty).map (·.size) = some vs.length) :
    (execOp a.eval op).run P w = .ok (.value (.agg vs.toArray)) w := by
  unfold execOp
  simp only [ho, hx, Instr.loadAt, Instr.sureAddr, Sem.run_bind, Sem.run_pure, Result.andThen_ok, run_loadVar_mid w b off ty vs d hr hu hd hi]
theorem wpList_store_box (hgd : op.guard = none) (ty : TypeId) (x y : Operand) (ho : op.op = .store ty x y) (hdst : op.dst = none) (b off : Nat) (hx : a.eval x = .pointer (some ⟨b, off, none⟩)) (vs : List Value) (hy : a.eval y = .agg vs.toArray)
    {T : TypeId} {cs : Array Value} (hb : Box w b T cs) (new : Array Value) (hnew : new.toList = cs.toList.take off ++ vs ++ cs.toList.drop (off + vs.length)) (hi : (P.info? ty).map (·.size) = some vs.length)
    (hfit : decide (off + vs.length ≤ cs.size) = true) (h1 : vs.all (·.oneCell') = true)
    (h : wpList P ops Q rest a (w.setRow b new)) : wpList P ops Q (op :: rest) a w := by
  refine wpList_plain hgd fun _ hK => ?_
  have hr := run_storeCells_at (P := P) b off T vs 0 cs w hb (by simpa using hfit) (fun v hv => List.all_eq_true.1 h1 v hv)
  simp only [Nat.add_zero] at hr
  rw [← hnew, Array.toArray_toList] at hr
  cases hq : P.info? ty with
  | none => simp [hq] at hi
  | some i =>
    have hs : vs.length = i.size := by simp [hq] at hi; omega
    unfold Oper.wp execOp
    simp [ho, hx, hy, Instr.storeAt, Instr.sureAddr, Sem.run_bind, Sem.run_pure, Result.andThen_ok, storeVar, sizeOf, typeInfo, hq, Value.cells, hs, hr]
    have := hK _ _ h
    simpa [Oper.upon, hdst, Act.put] using this
end
theorem Below.setRow {B g : Nat} {w0 w : World} (h : Below B w0 w) (hg : B ≤ g) (new : Array Value) : Below B w0 (w.setRow g new) :=
  ⟨h.os, h.tape, h.output, by simpa using h.size, fun k hk => (Go.setRow_other w g k new (by omega)).trans (h.block k hk)⟩
variable {P : Program}
theorem Box.load {w : World} {b : Nat} {T : TypeId} {cs : Array Value} (h : Box w b T cs) {d : TypeDesc} (hu : P.underlying T = some d) (hd : d.isRow = true) (hi : (P.info? T).map (·.size) = some cs.size) : (loadVar T ⟨b, 0, none⟩).run P w = .ok (.agg cs) w := by
  have := run_loadVar_mid (P := P) w b 0 T cs.toList d (h.range 0 cs.toList (by rw [List.drop_zero, List.take_length])) hu hd (by simpa using hi)
  simpa using this
theorem ret_ct {fn : Func} {R : Ending → World → Prop} {act : Act} {w : World} {t u b : Nat} {T : TypeId} {cs : Array Value} {q : Value} (h : fn.results = #[.cell t T, .tmp u]) (hd : act.defers = [])
    (ht : act.tmps.getD t undef = .pointer (some ⟨b, 0, none⟩)) (hu : act.tmps.getD u undef = q) (hl : (loadVar T ⟨b, 0, none⟩).run P w = .ok (.agg cs) w) (hR : R (.returned (.tuple #[.agg cs, q])) w) : bodyPost P fn R .ret act w := by
  refine bodyPost_ret (v := .tuple #[.agg cs, q]) ?_ hd hR
  rw [Array.getD_eq_getD_getElem?] at ht hu
  simp [results, h, ht, hu, asAddr, hl]
theorem ret_c {fn : Func} {R : Ending → World → Prop} {act : Act} {w : World} {t b : Nat} {T : TypeId} {cs : Array Value} (h : fn.results = #[.cell t T]) (hd : act.defers = [])
    (ht : act.tmps.getD t undef = .pointer (some ⟨b, 0, none⟩)) (hl : (loadVar T ⟨b, 0, none⟩).run P w = .ok (.agg cs) w) (hR : R (.returned (.agg cs)) w) : bodyPost P fn R .ret act w := by
  refine bodyPost_ret (v := .agg cs) ?_ hd hR
  rw [Array.getD_eq_getD_getElem?] at ht
  simp [results, h, ht, asAddr, hl]
theorem ret_cct {fn : Func} {R : Ending → World → Prop} {act : Act} {w : World} {t t2 u b b2 : Nat} {T T2 : TypeId} {cs cs2 : Array Value} {q : Value} (h : fn.results = #[.cell t T, .cell t2 T2, .tmp u]) (hd : act.defers = [])
    (ht : act.tmps.getD t undef = .pointer (some ⟨b, 0, none⟩)) (ht2 : act.tmps.getD t2 undef = .pointer (some ⟨b2, 0, none⟩)) (hu : act.tmps.getD u undef = q) (hl : (loadVar T ⟨b, 0, none⟩).run P w = .ok (.agg cs) w)
    (hl2 : (loadVar T2 ⟨b2, 0, none⟩).run P w = .ok (.agg cs2) w) (hR : R (.returned (.tuple #[.agg cs, .agg cs2, q])) w) : bodyPost P fn R .ret act w := by
  refine bodyPost_ret (v := .tuple #[.agg cs, .agg cs2, q]) ?_ hd hR
  rw [Array.getD_eq_getD_getElem?] at ht ht2 hu
  simp [results, h, ht, ht2, hu, asAddr, hl, hl2]
end Go.Proofs.YtbkjhogfpcmcbaaDoor
