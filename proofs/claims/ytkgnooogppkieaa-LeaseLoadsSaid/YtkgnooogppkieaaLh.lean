/- lease: the iterator over what has ended. Conditions: the table lies below the loop; its leases are right. -/
import Derived.RangeFuncNested
import Derived.RangeFuncBound
import Derived.RangeFuncCalls
import Derived.RangeFuncLeaves
import Derived.RangeFuncBox
import Derived.Shelf.Abstract
import Derived.Shelf.RegionOpen
import Derived.WalkKit
import Derived.OwnWalkIn
import Derived.TacticsInMore
import Derived.LoopNIn
import Derived.LoopIn
import Derived.Maps.AppendAt
import Derived.Test.YtkgnooogppkieaaLg
namespace Go.Proofs.Ytkgnooogppkieaa
open Go.RowKit Go.Shelf
set_option linter.unusedVariables false
set_option linter.unusedSimpArgs false
attribute [local go_sem] Oper.semAt_some

/-- what lay below n0 lies as it lay, but for one block. -/
def Keep (n0 O : Nat) (W W' : World) : Prop := W.heap.size ≤ W'.heap.size ∧ ∀ k, k < n0 → k ≠ O → W'.heap[k]? = W.heap[k]?
theorem Keep.refl (n0 O : Nat) (W : World) : Keep n0 O W W := ⟨Nat.le_refl _, fun _ _ _ => rfl⟩
theorem Keep.trans {n0 O : Nat} {A B C : World} (h : Keep n0 O A B) (k : Keep n0 O B C) : Keep n0 O A C := ⟨Nat.le_trans h.1 k.1, fun i hi hn => (k.2 i hi hn).trans (h.2 i hi hn)⟩
theorem Keep.alloc {n0 O : Nat} {A B : World} (h : Keep n0 O A B) (hn : n0 ≤ A.heap.size) (o : Obj) : Keep n0 O A (B.alloc o) := ⟨Nat.le_trans h.1 (by simp), fun i hi hne => (Below.heap_alloc B o i (by have := h.1; omega)).trans (h.2 i hi hne)⟩
def isLate (now : Int) (p : Lz) : Bool := decide (p.2.1 < now - p.2.2)
def lateL (L : List Lz) (now : Int) (t : Nat) : List Lz := (L.take t).filter (isLate now)
theorem lateL_len (L : List Lz) (now : Int) (t : Nat) : (lateL L now t).length ≤ t := Nat.le_trans (List.length_filter_le _ _) (by rw [List.length_take]; omega)
theorem lateL_yes {L : List Lz} {now : Int} {t : Nat} {p : Lz} (h : L[t]? = some p) (hp : isLate now p = true) : lateL L now (t + 1) = lateL L now t ++ [p] := by
  unfold lateL; rw [List.take_add_one, h, List.filter_append]; simp [hp]
theorem lateL_no {L : List Lz} {now : Int} {t : Nat} {p : Lz} (h : L[t]? = some p) (hp : isLate now p = false) : lateL L now (t + 1) = lateL L now t := by
  unfold lateL; rw [List.take_add_one, h, List.filter_append]; simp [hp]

set_option maxRecDepth 100000 in
set_option maxHeartbeats 2000000 in
theorem late1_in (F : Fence) (n : Nat) (h45 : F.fn 45) (hro : F.round = none) (hn : 1 ≤ n) (l Bt Bn n0 O base tb : Nat) (v : Value) (L : List Lz) (now : Int) (hl : L.length ≤ 1000) (hnow : 0 ≤ now ∧ now ≤ 1099511627776) (hv : ∀ p ∈ L, rightB p = true) (J Jx : List Lz → World → Prop)
    (hY : ∀ pre x W, J pre W → pre.length < L.length → YieldAt F (n - 1) Try.prog l #[tv x] W fun e W' =>
      (e = .returned (.bool true) ∧ J (pre ++ [x]) W' ∧ Keep n0 O W W') ∨ (e = .returned (.bool false) ∧ Jx (pre ++ [x]) W'))
    (W : World) (hJ : AbidesFrom W.heap.size J) (hn0 : n0 ≤ W.heap.size) (hbt : Box W Bt 22 #[.pointer (some ⟨tb, 0, none⟩)]) (hbn : Box W Bn 3 #[.int .i64 now]) (hbn0 : Bn < n0 ∧ Bn ≠ O) (hT : Tab W base tb v L) (ho : ∀ k, Of tb v k → k < n0 ∧ k ≠ O) (h0 : J [] W) :
    CallsIn F n Try.prog 45 #[.func (.yield l) #[] #[], .pointer (some ⟨Bt, 0, none⟩), .pointer (some ⟨Bn, 0, none⟩)] W fun e W' => (∃ v, e = .returned v) ∧
      ((∃ ys, ys = lateL L now L.length ∧ J ys W') ∨ (∃ pre, (∃ k, k ≤ L.length ∧ pre = lateL L now k) ∧ Jx pre W')) := by
  obtain ⟨ad, c, rfl, _⟩ := own_shape hT.row
  have b0 : W.cell? ⟨Bt, 0, none⟩ = some (.pointer (some ⟨tb, 0, none⟩)) := hbt.cell 0
  have t0 : W.cell? ⟨tb, 0, none⟩ = some (.slice ad L.length c) := hT.box.cell 0
  have hbl := hbt.lt
  have htl := hT.box.lt
  have HT := Lib.hid hT
  have HO := Lib.hid ho
  have HBN := Lib.hid hbn
  have HV := Lib.hid hv
  have HY := Lib.hid hY
  have HJ := Lib.hid hJ
  clear hT ho hbn hv hY hJ hbt
  refine callsIn_of_wp Try.func45 rfl h45 ?_ hro
  simp only [Try.ntmps45, List.size_toArray, List.length_cons, List.length_nil, Nat.reduceAdd, Nat.reduceSub, Array.replicate_succ, Array.replicate_zero, List.push_toArray, List.append_toArray, List.nil_append, List.cons_append]
  gi_wp2
  gi_loopw [11] (fun i wr => ∃ k : Nat, k ≤ L.length ∧ i = .int .i64 k ∧ J (lateL L now k) wr ∧ Keep n0 O W wr)
    (fun i _ => L.length - (intOf i).toNat)
  case atStart => exact ⟨0, Nat.zero_le _, rfl, h0, Keep.refl _ _ _⟩
  case round =>
    obtain ⟨k, hk, rfl, hJs, hkp⟩ := hrel
    have HKP := Lib.hid hkp
    have HJS := Lib.hid hJs
    have hsz := hkp.1
    have HTr := Lib.hid (HT.out.stays (w' := wr) (fun i hi hof => hkp.2 i (HO.out i hof).1 (HO.out i hof).2))
    have n1 : wr.cell? ⟨Bn, 0, none⟩ = some (.int .i64 now) := (show Box wr Bn 3 #[.int .i64 now] from (hkp.2 Bn hbn0.1 hbn0.2).trans HBN.out).cell 0
    have hbnl : Bn < wr.heap.size := by omega
    clear hkp hJs b0 t0
    by_cases hlt : k < L.length
    · obtain ⟨p, hp⟩ : ∃ p, L[k]? = some p := ⟨_, List.getElem?_eq_getElem hlt⟩
      obtain ⟨g, cap, he, hg, d0, d1, d2⟩ := own_cells HTr.out.row k p hp
      obtain ⟨rfl, rfl⟩ : ad = some ⟨g, 0, none⟩ ∧ c = cap := by simpa using he
      have hr := HV.out p (List.mem_of_getElem? hp)
      simp only [rightB, decide_eq_true_eq] at hr
      obtain ⟨r1, r2, r3, r4, r5, r6⟩ := hr
      have hJ2 : J (lateL L now k) (wr.alloc (.cells #[.int .i64 p.1, .int .i64 p.2.1, .int .i64 p.2.2] 37)) := HJ.out _ wr _ none HJS.out (World.grownBy_alloc wr _ none) (fun r e => by cases e)
      by_cases hla : p.2.1 < now - p.2.2
      · have HLA := Lib.hid (lateL_yes (now := now) hp (by simp [isLate, hla]))
        obtain ⟨fn, tmps, assign, body, hy, hR⟩ := HY.out _ p _ hJ2 (by have := lateL_len L now k; omega)
        unfold tv at hy
        clear hp he hJ2
        gi_wp2
        refine hR.mono ?_
        rintro e W3 (⟨rfl, hJ3, hk3⟩ | ⟨rfl, hJx3⟩)
        · gi_wp2
          go_roundw
          case rel => exact ⟨k + 1, by omega, by go_num, by rw [HLA.out]; exact hJ3, (HKP.out.alloc hn0 _).trans hk3⟩
          case measure => simp [intOf]; omega
        · gi_wp2
          refine bodyPost_ret (results_none rfl _ _ _) rfl ?_
          exact ⟨⟨_, rfl⟩, .inr ⟨_, ⟨k + 1, by omega, HLA.out.symm⟩, hJx3⟩⟩
      · have HLA := Lib.hid (lateL_no (now := now) hp (by simp [isLate]; omega))
        clear hp he
        gi_wp2
        refine ⟨fun _ h => (by cases h), ?_⟩
        gi_wp2
        go_roundw
        case rel => exact ⟨k + 1, by omega, by go_num, by rw [HLA.out]; exact hJ2, HKP.out.alloc hn0 _⟩
        case measure => simp [intOf]; omega
    · obtain rfl : k = L.length := by omega
      gi_wp2
      go_end0
      exact ⟨⟨_, rfl⟩, .inl ⟨_, rfl, HJS.out⟩⟩

theorem late_stops (F : Fence) (n : Nat) (h45 : F.fn 45) (hro : F.round = none) (hn : 1 ≤ n) (Bt Bn n0 O base tb : Nat) (v : Value) (L : List Lz) (now : Int) (hl : L.length ≤ 1000) (hnow : 0 ≤ now ∧ now ≤ 1099511627776) (hv : ∀ p ∈ L, rightB p = true)
    (w : World) (hn0 : n0 ≤ w.heap.size) (hbt : Box w Bt 22 #[.pointer (some ⟨tb, 0, none⟩)]) (hbn : Box w Bn 3 #[.int .i64 now]) (hbn0 : Bn < n0 ∧ Bn ≠ O) (hT : Tab w base tb v L) (ho : ∀ k, Of tb v k → k < n0 ∧ k ≠ O) :
    SeqStopsK F n Try.prog 45 #[.pointer (some ⟨Bt, 0, none⟩), .pointer (some ⟨Bn, 0, none⟩)] (fun x : Lz => #[tv x]) (Keep n0 O) (fun ys => ys = lateL L now L.length) (fun pre => ∃ k, k ≤ L.length ∧ pre = lateL L now k) L.length w := fun l J Jx W hW hJ hJx hY h0 =>
  late1_in F n h45 hro hn l Bt Bn n0 O base tb v L now hl hnow hv J Jx hY W hJ (Nat.le_trans hn0 hW.size) (hbt.below hW hbt.lt) (hbn.below hW hbn.lt) hbn0 (hT.below hW (Nat.le_refl _)) ho h0
end Go.Proofs.Ytkgnooogppkieaa
