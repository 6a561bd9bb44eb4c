/- chart: the mounts that a path lies under, collected. Conditions: the mounts lie in memory; texts have at most 2000000 bytes. -/
import Derived.Test.YtbkjhogfpcmcbaaDoorKd
import Derived.RangeFuncNested
import Derived.RangeFuncBound
import Derived.RangeFuncCalls
import Derived.RangeFuncLeaves
import Derived.RangeFuncBox
import Derived.Shelf.Abstract
import Derived.Shelf.RegionOpen
import Derived.WalkKit
import Derived.OwnWalkIn
import Derived.TacticsInMore
import Derived.LoopNIn
import Derived.LoopIn
import Derived.Maps.AppendAt
import Derived.Test.YtbkjhogfpcmcbaaDoorRow
import Derived.Test.YtbkjhogfpcmcbaaDoorRowW
namespace Go.Proofs.YtbkjhogfpcmcbaaDoor
open Go Go.RowKit Go.Shelf Zn
attribute [local go_sem] Oper.semAt_some
set_option linter.unusedVariables false
set_option linter.unusedSimpArgs false
variable {w w' : World}
/-- what lay below n0 lies as it lay, but for one block. -/
def Keep (n0 O : Nat) (W W' : World) : Prop := W.heap.size ≤ W'.heap.size ∧ ∀ k, k < n0 → k ≠ O → W'.heap[k]? = W.heap[k]?
theorem Keep.refl (n0 O : Nat) (W : World) : Keep n0 O W W := ⟨Nat.le_refl _, fun _ _ _ => rfl⟩
theorem Keep.trans {n0 O : Nat} {A B C : World} (h : Keep n0 O A B) (k : Keep n0 O B C) : Keep n0 O A C := ⟨Nat.le_trans h.1 k.1, fun i hi hn => (k.2 i hi hn).trans (h.2 i hi hn)⟩
theorem Keep.alloc {n0 O : Nat} {A B : World} (h : Keep n0 O A B) (hn : n0 ≤ A.heap.size) (o : Obj) : Keep n0 O A (B.alloc o) := ⟨Nat.le_trans h.1 (by simp), fun i hi hne => (Below.heap_alloc B o i (by have := h.1; omega)).trans (h.2 i hi hne)⟩
theorem Keep.below {n0 O : Nat} {A B C : World} (h : Keep n0 O A B) (hn : n0 ≤ A.heap.size) (b : Below B.heap.size B C) : Keep n0 O A C := ⟨Nat.le_trans h.1 b.size, fun i hi hne => (b.block i (by have := h.1; omega)).trans (h.2 i hi hne)⟩
theorem grown_below {A B : World} (b : Below A.heap.size A B) : A.grownBy B none := ⟨b.os, b.tape, b.output, b.size, fun k hk _ => b.block k hk⟩
/-- the mounts that a path lies under. -/
def isUnder (q : ByteArray) (x : Mt) : Bool := underZ q.data.toList x.p.data.toList
def underL (ms : List Mt) (q : ByteArray) (t : Nat) : List Mt := (ms.take t).filter (isUnder q)
theorem underL_len (L : List Mt) (q : ByteArray) (t : Nat) : (underL L q t).length ≤ t := Nat.le_trans (List.length_filter_le _ _) (by rw [List.length_take]; omega)
theorem underL_yes {L : List Mt} {q : ByteArray} {t : Nat} {p : Mt} (h : L[t]? = some p) (hp : isUnder q p = true) : underL L q (t + 1) = underL L q t ++ [p] := by
  unfold underL; rw [List.take_add_one, h, List.filter_append]; simp [hp]
theorem underL_no {L : List Mt} {q : ByteArray} {t : Nat} {p : Mt} (h : L[t]? = some p) (hp : isUnder q p = false) : underL L q (t + 1) = underL L q t := by
  unfold underL; rw [List.take_add_one, h, List.filter_append]; simp [hp]
/-- what an iterator reads stays. -/
structure Holds (n0 O B2 B3 : Nat) (a : Option Addr) (len cap : Nat) (ms : List Mt) (q : ByteArray) (W : World) : Prop where
  b2 : Box W B2 22 #[.slice a len cap]
  b3 : Box W B3 9 #[.string q]
  at_ : MsAt W a len ms
  mx : Mx W
  l2 : B2 < n0 ∧ B2 ≠ O
  l3 : B3 < n0 ∧ B3 ≠ O
  la : ∀ b off, a = some ⟨b, off, none⟩ → b < n0 ∧ b ≠ O
  l0 : 0 < n0 ∧ 0 ≠ O
theorem cell_keep {W W' : World} {p : Addr} (h : W'.heap[p.block]? = W.heap[p.block]?) : W'.cell? p = W.cell? p := by unfold World.cell?; rw [h]
theorem Holds.keep {n0 O B2 B3 : Nat} {a : Option Addr} {len cap : Nat} {ms : List Mt} {q : ByteArray} {W W' : World} (h : Holds n0 O B2 B3 a len cap ms q W) (k : Keep n0 O W W') : Holds n0 O B2 B3 a len cap ms q W' := by
  refine ⟨(k.2 _ h.l2.1 h.l2.2).trans h.b2, (k.2 _ h.l3.1 h.l3.2).trans h.b3, ⟨h.at_.1, h.at_.2.imp id ?_⟩, ?_, h.l2, h.l3, h.la, h.l0⟩
  · rintro ⟨b, off, e, hb, hc⟩
    refine ⟨b, off, e, Nat.lt_of_lt_of_le hb k.1, fun i r hr j u hu => (cell_keep (p := ⟨b, off + i * 2 + j, none⟩) (k.2 b (h.la b off e).1 (h.la b off e).2)).trans (hc i r hr j u hu)⟩
  · obtain ⟨m, hm⟩ := h.mx
    exact ⟨m, (cell_keep (p := ⟨0, 0, none⟩) (k.2 0 h.l0.1 h.l0.2)).trans hm⟩
set_option maxRecDepth 100000 in
set_option maxHeartbeats 4000000 in
theorem iter_in (n : Nat) (hn : 1 ≤ n) (l B2 B3 n0 O : Nat) (a : Option Addr) (len cap : Nat) (ms : List Mt) (q : ByteArray) (hl : len ≤ 1000000) (hq : q.size ≤ 2000000) (hs : ∀ x ∈ ms, x.p.size ≤ 2000000) (J Jx : List Mt → World → Prop)
    (hY : ∀ pre x W, J pre W → pre.length < ms.length → YieldAt Fence.wide (n - 1) Tryd.prog l #[mv x] W fun e W' =>
      (e = .returned (.bool true) ∧ J (pre ++ [x]) W' ∧ Keep n0 O W W') ∨ (e = .returned (.bool false) ∧ Jx (pre ++ [x]) W'))
    (W : World) (hJ : AbidesFrom W.heap.size J) (hn0 : n0 ≤ W.heap.size) (hT : Holds n0 O B2 B3 a len cap ms q W) (h0 : J [] W) :
    CallsIn Fence.wide n Tryd.prog 47 #[.func (.yield l) #[] #[], .pointer (some ⟨B2, 0, none⟩), .pointer (some ⟨B3, 0, none⟩)] W fun e W' => (∃ v, e = .returned v) ∧
      ((∃ ys, ys = underL ms q ms.length ∧ J ys W') ∨ (∃ pre, True ∧ Jx pre W')) := by
  have b0 : W.cell? ⟨B2, 0, none⟩ = some (.slice a len cap) := hT.b2.cell 0
  have hbl := hT.b2.lt
  have HLE := Lib.hid hT.at_.len
  have HT := Lib.hid hT
  have HS := Lib.hid hs
  have HY := Lib.hid hY
  have HJ := Lib.hid hJ
  clear hT hs hY hJ
  refine callsIn_of_wp Tryd.func47 rfl trivial ?_ rfl
  simp only [Tryd.ntmps47, List.size_toArray, List.length_cons, List.length_nil, Nat.reduceAdd, Nat.reduceSub, Array.replicate_succ, Array.replicate_zero, List.push_toArray, List.append_toArray, List.nil_append, List.cons_append]
  gi_wp2
  gi_loopw [8] (fun i wr => ∃ k : Nat, k ≤ len ∧ i = .int .i64 k ∧ J (underL ms q k) wr ∧ Keep n0 O W wr)
    (fun i _ => len - (intOf i).toNat)
  case atStart => exact ⟨0, Nat.zero_le _, rfl, h0, Keep.refl _ _ _⟩
  case round =>
    obtain ⟨k, hk, rfl, hJs, hkp⟩ := hrel
    have HKP := Lib.hid hkp
    have HJS := Lib.hid hJs
    have HTr := Lib.hid (HT.out.keep hkp)
    have hsz := hkp.1
    clear hkp hJs b0 hbl
    by_cases hlt : k < len
    · obtain ⟨b, off, x, rfl, hp, hbl, c0, c1⟩ := HTr.out.at_.get k hlt
      have n1 : wr.cell? ⟨B3, 0, none⟩ = some (.string q) := HTr.out.b3.cell 0
      have hb3l := HTr.out.b3.lt
      have ba : Below wr.heap.size wr (wr.alloc (.cells #[.string x.p, .int .i64 x.v] 53)) := (Below.refl _ wr).alloc (Nat.le_refl _) _
      have HBA := Lib.hid ba
      have C := under_any q x.p (wr.alloc (.cells #[.string x.p, .int .i64 x.v] 53)) hq (HS.out x (List.mem_of_getElem? hp)) (HTr.out.mx.below ba)
      have HJT := Lib.hid (fun w3 (b3 : Below (wr.alloc (.cells #[.string x.p, .int .i64 x.v] 53)).heap.size (wr.alloc (.cells #[.string x.p, .int .i64 x.v] 53)) w3) =>
        HJ.out _ wr w3 none HJS.out (grown_below (HBA.out.trans (b3.mono HBA.out.size))) (fun r e => by cases e))
      have HLEN := Lib.hid (show (underL ms q k).length < ms.length by have := underL_len ms q k; have := HLE.out; omega)
      have HKB := Lib.hid (fun w3 (b3 : Below (wr.alloc (.cells #[.string x.p, .int .i64 x.v] 53)).heap.size (wr.alloc (.cells #[.string x.p, .int .i64 x.v] 53)) w3) => HKP.out.below hn0 (HBA.out.trans (b3.mono HBA.out.size)))
      have hcx : (wr.alloc (.cells #[.string x.p, .int .i64 x.v] 53)).heap[wr.heap.size]? = some (.cells #[.string x.p, .int .i64 x.v] 53) := heap_alloc_new wr _
      have HXB := Lib.hid (show ∀ w3, Below (wr.alloc (.cells #[.string x.p, .int .i64 x.v] 53)).heap.size (wr.alloc (.cells #[.string x.p, .int .i64 x.v] 53)) w3 → w3.cell? ⟨wr.heap.size, 0, none⟩ = some (.string x.p) ∧ w3.cell? ⟨wr.heap.size, 1, none⟩ = some (.int .i64 x.v) ∧ wr.heap.size < w3.heap.size from fun w3 b3 => by
        have hb : Box w3 wr.heap.size 53 #[.string x.p, .int .i64 x.v] := (b3.block wr.heap.size (by simp)).trans hcx
        exact ⟨hb.cell 0, hb.cell 1, hb.lt⟩)
      clear hcx ba
      cases hu : isUnder q x with
      | true =>
        have HLA := Lib.hid (underL_yes (q := q) hp hu)
        unfold isUnder at hu
        rw [hu] at C
        have C := Lib.hid C
        clear hp hu
        gi_wp2_with (first | (refine ⟨trivial, ?_⟩; gi_at_call 48; refine (callsIn_wide.2 C.out).mono ?_; rintro e w3 ⟨rfl, b3⟩; have HB3 := Lib.hid b3; clear b3; obtain ⟨x0, x1, xl⟩ := HXB.out w3 HB3.out; obtain ⟨fn, tmps, assign, body, hy, hR⟩ := HY.out _ x w3 (HJT.out w3 HB3.out) HLEN.out; unfold mv at hy) | (gi_at_call 48; refine (callsIn_wide.2 C.out).mono ?_; rintro e w3 ⟨rfl, b3⟩; have HB3 := Lib.hid b3; clear b3; obtain ⟨x0, x1, xl⟩ := HXB.out w3 HB3.out; obtain ⟨fn, tmps, assign, body, hy, hR⟩ := HY.out _ x w3 (HJT.out w3 HB3.out) HLEN.out; unfold mv at hy))
        refine hR.mono ?_
        rintro e W3 (⟨rfl, hJ3, hk3⟩ | ⟨rfl, hJx3⟩)
        · gi_wp2
          go_roundw
          case rel => exact ⟨k + 1, by omega, by go_num, by rw [HLA.out]; exact hJ3, (HKB.out w3 HB3.out).trans hk3⟩
          case measure => simp [intOf]; omega
        · gi_wp2
          refine bodyPost_ret (results_none rfl _ _ _) rfl ?_
          exact ⟨⟨_, rfl⟩, .inr ⟨_, trivial, hJx3⟩⟩
      | false =>
        have HLA := Lib.hid (underL_no (q := q) hp hu)
        unfold isUnder at hu
        rw [hu] at C
        have C := Lib.hid C
        clear hp hu
        gi_wp2_with (first | (refine ⟨trivial, ?_⟩; gi_at_call 48; refine (callsIn_wide.2 C.out).mono ?_; rintro e w3 ⟨rfl, b3⟩; have HB3 := Lib.hid b3; clear b3) | (gi_at_call 48; refine (callsIn_wide.2 C.out).mono ?_; rintro e w3 ⟨rfl, b3⟩; have HB3 := Lib.hid b3; clear b3))
        refine ⟨fun _ h => (by cases h), ?_⟩
        gi_wp2
        go_roundw
        case rel => exact ⟨k + 1, by omega, by go_num, by rw [HLA.out]; exact HJT.out w3 HB3.out, HKB.out w3 HB3.out⟩
        case measure => simp [intOf]; omega
    · obtain rfl : k = len := by omega
      gi_wp2
      go_end0
      exact ⟨⟨_, rfl⟩, .inl ⟨_, by rw [HLE.out], HJS.out⟩⟩
theorem iter_stops (n : Nat) (hn : 1 ≤ n) (B2 B3 n0 O : Nat) (a : Option Addr) (len cap : Nat) (ms : List Mt) (q : ByteArray) (hl : len ≤ 1000000) (hq : q.size ≤ 2000000) (hs : ∀ x ∈ ms, x.p.size ≤ 2000000)
    (w : World) (hn0 : n0 ≤ w.heap.size) (hT : Holds n0 O B2 B3 a len cap ms q w) :
    SeqStopsK Fence.wide n Tryd.prog 47 #[.pointer (some ⟨B2, 0, none⟩), .pointer (some ⟨B3, 0, none⟩)] (fun x : Mt => #[mv x]) (Keep n0 O) (fun ys => ys = underL ms q ms.length) (fun _ => True) ms.length w := fun l J Jx W hW hJ hJx hY h0 =>
  iter_in n hn l B2 B3 n0 O a len cap ms q hl hq hs J Jx hY W hJ (Nat.le_trans hn0 hW.size) (hT.keep (Keep.below (Keep.refl _ _ _) hn0 hW)) h0
end Go.Proofs.YtbkjhogfpcmcbaaDoor
