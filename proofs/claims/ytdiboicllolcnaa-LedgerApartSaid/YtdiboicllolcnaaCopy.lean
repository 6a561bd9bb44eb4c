/-
  copy within rows whose elements have several cells; append of zero elements. Conditions: none (plain lemmas over any program).
-/
import Derived.Test.YtdiboicllolcnaaRow
import Derived.Laws.CopyRow
import Derived.Lib.AppendZerosOnto
import Derived.Lib.Overlaps
namespace Go.Proofs.Ytdiboicllolcnaa
open Go Go.RowKit
variable {P : Program}

theorem run_copy_rowK (w : World) (dT sT ty elem : TypeId) (size : Nat) (g o dLen dCap : Nat) (a : Addr) (sLen sCap : Nat) (cur : Array Value) (t : TypeId) (cs : List Value)
    (hu : P.underlying dT = some (.slice elem)) (hs : (P.info? elem).map (·.size) = some size)
    (hg : w.heap[g]? = some (.cells cur t (0, 0))) (hn : cs.length = Nat.min sLen dLen * size)
    (hsrc : ∀ j v, cs[j]? = some v → w.cell? (a.add j) = some v) (hfit : o + cs.length ≤ cur.size) (h1 : ∀ v ∈ cs, v.oneCell' = true) :
    (Builtin.copy_ #[dT, sT] ty #[.slice (some ⟨g, o, none⟩) dLen dCap, .slice (some a) sLen sCap]).run P w =
      .ok (goInt (Nat.min sLen dLen)) (w.setRow g (cur.toList.take o ++ cs ++ cur.toList.drop (o + cs.length)).toArray) := by
  have hl := run_loadCells_list (P := P) w a cs hsrc
  have hst := run_storeCells_at P g o t cs 0 cur w hg (by simpa using hfit) h1
  cases hq : P.info? elem with
  | none => simp [hq] at hs
  | some i =>
    have hi : i.size = size := by simpa [hq] using hs
    simp [Builtin.copy_, run_underlying hu, Builtin.lenOf, Builtin.firstCells, sizeOf, typeInfo, hq, hi, ← hn, hl, hst]

theorem wpList_copy_row {w : World} {ops : Array Oper} {rest : List Oper} {o : Oper} {a : Act} {Q : Exit → Act → World → Prop} (hgd : Region.wanted o (yielded ops a.tmps) = true) (d s : Operand) (t t' : TypeId)
    (ho : o.op = .call { callee := .builtin .copy, args := #[d, s], argTypes := #[t, t'] })
    (e : TypeId) (size : Nat) (ht : P.underlying t = some (.slice e)) (hi : (P.info? e).map (·.size) = some size)
    (g off dLen dCap : Nat) (cur : Array Value) (T : TypeId) (hg : w.heap[g]? = some (.cells cur T (0, 0))) (hd : a.eval d = .slice (some ⟨g, off, none⟩) dLen dCap)
    (ad : Addr) (sLen sCap : Nat) (cs : List Value) (hs : a.eval s = .slice (some ad) sLen sCap) (hn : cs.length = Nat.min sLen dLen * size)
    (hsrc : ∀ j v, cs[j]? = some v → w.cell? (ad.add j) = some v) (hfit : off + cs.length ≤ cur.size) (h1 : ∀ v ∈ cs, v.oneCell' = true)
    (h : ∀ new : Array Value, Hid (new = (cur.toList.take off ++ cs ++ cur.toList.drop (off + cs.length)).toArray) → wpList P ops Q rest (a.put o.dst (goInt (Nat.min sLen dLen))) (w.setRow g new)) : wpList P ops Q (o :: rest) a w := by
  refine BigFrame.wpList_want hgd fun K hK => ?_
  have hr := run_copy_rowK (P := P) w t t' o.type e size g off dLen dCap ad sLen sCap cur T cs ht hi hg hn hsrc hfit h1
  unfold Oper.wp execOp
  simp only [ho, resolve, invoke, builtin, Sem.run_bind, Sem.run_pure, Result.andThen_ok, List.map_toArray, List.map_cons, List.map_nil, hd, hs, hr]
  exact hK _ _ (h _ rfl)

/-- a row that is cut in three: what stood ahead, the news, what stood behind. -/
theorem take_three (l cs : List Value) (off : Nat) (h : off + cs.length ≤ l.length) (m : Nat) (hm : off + cs.length ≤ m) : (l.take off ++ cs ++ l.drop (off + cs.length)).take m = l.take off ++ cs ++ (l.drop (off + cs.length)).take (m - (off + cs.length)) := by
  rw [List.take_append]
  have h1 : (l.take off ++ cs).length = off + cs.length := by rw [List.length_append, List.length_take]; omega
  rw [h1, List.take_of_length_le (by omega)]
end Go.Proofs.Ytdiboicllolcnaa
