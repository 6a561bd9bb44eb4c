/- lease: scripts of calls, and a call on a table. Conditions: the script lies in memory. -/
import Derived.Test.YtkgnooogppkieaaLl
import Derived.Test.YtkgnooogppkieaaOpenS
namespace Go.Proofs.Ytkgnooogppkieaa
open Go.RowKit Go.ChangeShapes Go.WideShapes Go.ChangeAt
set_option linter.unusedVariables false
set_option linter.unusedSimpArgs false

/-- an op. -/
structure Op10 where
  kd : Int
  id : Int
  span : Int
  now : Int
def oc (o : Op10) : List Value := [.int .i64 o.kd, .int .i64 o.id, .int .i64 o.span, .int .i64 o.now]
def ov (o : Op10) : Value := .agg #[.int .i64 o.kd, .int .i64 o.id, .int .i64 o.span, .int .i64 o.now]
theorem shape62 {H : Type} {enc : TypeId × Value → H} {W : World} {n : Nat} {r : List Value} {y : DataW H × List MemPlace} (h : DataW.trod enc Try.prog W 0 (fun _ => true) true n 62 r = some y) (hr : r.length = 4) : ∃ o : Op10, r = oc o := by
  obtain ⟨xs, n', _, _, _, hlen, hg⟩ := DataW.trod_struct Try.underlying62 h
  match r, hr with
  | [c0, c1, c2, c3], _ =>
    match xs, hlen with
    | [y0, y1, y2, y3], _ =>
      have h0 := hg 0 _ rfl
      have h1 := hg 1 _ rfl
      have h2 := hg 2 _ rfl
      have h3 := hg 3 _ rfl
      have k3 : Try.prog.cellsOf 3 = 1 := by kernel_rfl
      simp [k3] at h0 h1 h2 h3
      obtain ⟨a, ha, _⟩ := DataW.trod_int Try.underlying3 h0
      obtain ⟨b, hb, _⟩ := DataW.trod_int Try.underlying3 h1
      obtain ⟨c, hc, _⟩ := DataW.trod_int Try.underlying3 h2
      obtain ⟨d, hd, _⟩ := DataW.trod_int Try.underlying3 h3
      simp at ha hb hc hd
      exact ⟨⟨a, b, c, d⟩, by rw [ha, hb, hc, hd]; rfl⟩
theorem rows_op {l : List (List Value)} (h : ∀ r ∈ l, ∃ o : Op10, r = oc o) : ∃ os : List Op10, l = os.map oc := by
  induction l with
  | nil => exact ⟨[], rfl⟩
  | cons r l ih =>
    obtain ⟨p, rfl⟩ := h r (by simp)
    obtain ⟨ps, rfl⟩ := ih fun r hr => h r (by simp [hr])
    exact ⟨p :: ps, rfl⟩
/-- a script that comes in. -/
def OpsAt (w : World) (a : Option Addr) (len : Nat) (os : List Op10) : Prop := RowsAt w 4 a len (os.map oc)
theorem OpsAt.get {w : World} {a : Option Addr} {len : Nat} {os : List Op10} (h : OpsAt w a len os) (k : Nat) (hk : k < len) :
    ∃ b off o, a = some ⟨b, off, none⟩ ∧ os[k]? = some o ∧ b < w.heap.size ∧ w.cell? ⟨b, off + k * 4, none⟩ = some (.int .i64 o.kd) ∧ w.cell? ⟨b, off + k * 4 + 1, none⟩ = some (.int .i64 o.id) ∧ w.cell? ⟨b, off + k * 4 + 2, none⟩ = some (.int .i64 o.span) ∧
      w.cell? ⟨b, off + k * 4 + 3, none⟩ = some (.int .i64 o.now) := by
  obtain ⟨h1, h2⟩ := h
  rw [List.length_map] at h1
  obtain ⟨b, off, rfl, hb, hc⟩ := h2.resolve_left (by omega)
  have hp : os[k]? = some (os[k]'(by omega)) := List.getElem?_eq_getElem (by omega)
  have hr : (os.map oc)[k]? = some (oc (os[k]'(by omega))) := by rw [List.getElem?_map, hp]; rfl
  exact ⟨b, off, _, rfl, hp, hb, hc k _ hr 0 _ rfl, hc k _ hr 1 _ rfl, hc k _ hr 2 _ rfl, hc k _ hr 3 _ rfl⟩
theorem open_ops {H : Type} {enc : TypeId × Value → H} {W : World} {base : Nat} {v : Value} {d : DataW H} {p : List MemPlace} (hv : Value.okWide Try.prog W .any base 30 v) (h : DataW.Trod enc Try.prog W 0 (fun _ => true) true 30 v d p) :
    ∃ a len cap os, v = .slice a len cap ∧ OpsAt W a len os ∧ len ≤ cap ∧ cap ≤ maxLen := by
  obtain ⟨a, len, cap, rfl⟩ := okWide_slice Try.underlying30 hv
  obtain ⟨rows, hr, _, h1, h2, hs⟩ := open_rows Try.underlying30 (show Try.prog.cellsOf 62 = 4 by kernel_rfl) (by omega) h
  obtain ⟨os, rfl⟩ := rows_op fun r hrm => by
    obtain ⟨hl, n, y, hy⟩ := hs r hrm
    exact shape62 hy hl
  exact ⟨a, len, cap, os, rfl, hr, h1, h2⟩
/-- what a call does. -/
def stepL (o : Op10) (L : List Lz) : Int × List Lz :=
  if o.kd = 0 then (if openOk L (o.id, o.span, o.now) then 0 else 1, if openOk L (o.id, o.span, o.now) then insL L (o.id, o.span, o.now) else L)
  else if o.kd = 1 then (if clockB o.now then (if isIn L o.id then 0 else 100) else 1, if clockB o.now && isIn L o.id then renL L o.id o.now else L)
  else if o.kd = 2 then (if isIn L o.id then 0 else 100, if isIn L o.id then delL L o.id else L)
  else (0, L)
theorem good_step {L : List Lz} (o : Op10) (h : Good L) : Good (stepL o L).2 := by
  unfold stepL
  split
  · simp only
    split
    · rename_i ho; exact good_ins h _ ho
    · exact h
  split
  · simp only
    split
    · rename_i ho; simp only [Bool.and_eq_true] at ho; exact good_ren h _ _ ho.1
    · exact h
  split
  · simp only
    split
    · exact good_del h _
    · exact h
  · exact h
end Go.Proofs.Ytkgnooogppkieaa
