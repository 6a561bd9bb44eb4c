/- lease: Delete, Close, Renew, Get, New. Conditions: the table lies in the call's own memory, its ids rise. -/
import Derived.Test.YtkgnooogppkieaaLd
namespace Go.Proofs.Ytkgnooogppkieaa
open Go.RowKit
set_option linter.unusedVariables false
set_option linter.unusedSimpArgs false
variable {w w' : World} {base n : Nat} {v : Value} {L : List Lz}

def zeroLz : Value := .agg #[.int .i64 0, .int .i64 0, .int .i64 0]
theorem zero_one : ∀ u ∈ zeroLz.cells.toList, u.oneCell' = true := by intro u hu; simp [zeroLz, Value.cells] at hu; rcases hu with rfl | rfl | rfl <;> rfl
theorem delete_any (g k q cap base : Nat) (xs : List Value) (w : World) (h : w.ownsRow base 37 3 (.slice (some ⟨g, 0, none⟩) (k + 1 + q) cap) (k + 1 + q) xs) (h1 : ∀ u ∈ xs, u.oneCell' = true) :
    Calls Try.prog 34 #[.slice (some ⟨g, 0, none⟩) (k + 1 + q) cap, .int .i64 (k : Int), .int .i64 ((k : Int) + 1)] w fun e w' => e = .returned (.slice (some ⟨g, 0, none⟩) (k + q) cap) ∧
      w'.ownsRow base 37 3 (.slice (some ⟨g, 0, none⟩) (k + q) cap) (k + q) (xs.take (k * 3) ++ xs.drop ((k + 1) * 3)) ∧ w.grownBy w' (some g) := by
  obtain ⟨i0, hi, hz0, hz1, hz2⟩ := info_parts row37
  have hz : i0.zero = some zeroLz := hz0
  clear hz0
  rcases h.2 with ⟨h0, _⟩ | ⟨g', cap', cur, he, hb, hg, hc, hm, hcs, ht⟩
  · cases h0
  · obtain ⟨rfl, rfl⟩ : g = g' ∧ cap = cap' := by simpa using he
    have hcm : cap ≤ 9223372036854775807 := by unfold maxLen at hm; omega
    have HG := Lib.hid hg
    have HT := Lib.hid ht
    have HZ := Lib.hid hcs
    have hx : xs.length = (k + 1 + q) * 3 := h.1
    have HX := Lib.hid hx
    clear he hg ht hcs h hx
    have s1 : ∀ w : World, (Instr.sliceAt 27 (.slice (some ⟨g, 0, none⟩) (k + 1 + q) cap) (some (.int .i64 (k : Int))) (some (.int .i64 ((k : Int) + 1))) (some (.int .i64 ((k + 1 + q : Nat) : Int)))).run Try.prog w = .ok (.slice (some (if k + 1 + q = k then ⟨g, 0, none⟩ else ⟨g, 0 + k * 3, none⟩)) (k + 1 - k) (k + 1 + q - k)) w :=
      fun w => by have := cut_lhm elem27 size27 g 0 (k + 1 + q) cap w k (k + 1) (k + 1 + q) (by omega) (by omega) (by omega); simpa using this
    have s2 : ∀ w : World, (Instr.sliceAt 27 (.slice (some ⟨g, 0, none⟩) (k + 1 + q) cap) none (some (.int .i64 (k : Int))) none).run Try.prog w = .ok (.slice (some ⟨g, 0, none⟩) k cap) w :=
      fun w => cut_h elem27 size27 g 0 (k + 1 + q) cap w k (by omega)
    obtain ⟨ad, had⟩ : ∃ ad : Addr, ad = (if cap = k + 1 then ⟨g, 0, none⟩ else ⟨g, 0 + (k + 1) * 3, none⟩) := ⟨_, rfl⟩
    have s3 : ∀ w : World, (Instr.sliceAt 27 (.slice (some ⟨g, 0, none⟩) (k + 1 + q) cap) (some (.int .i64 ((k : Int) + 1))) none none).run Try.prog w = .ok (.slice (some ad) q (cap - (k + 1))) w :=
      fun w => by
        have := cut_l elem27 size27 g 0 (k + 1 + q) cap w (k + 1) (by omega)
        rw [← had, show k + 1 + q - (k + 1) = q by omega] at this
        simpa using this
    have s4 : ∀ w : World, (Instr.sliceAt 27 (.slice (some ⟨g, 0, none⟩) (k + q) cap) (some (.int .i64 ((k : Int) + (q : Int)))) (some (.int .i64 ((k : Int) + 1 + (q : Int)))) none).run Try.prog w = .ok (.slice (some ⟨g, (k + q) * 3, none⟩) 1 (cap - (k + q))) w :=
      fun w => by
        have := cut_lh elem27 size27 g 0 (k + q) cap w (k + q) (k + 1 + q) (by omega) (by omega)
        rw [if_neg (show ¬ cap = k + q by omega), show k + 1 + q - (k + q) = 1 by omega, Nat.zero_add] at this
        simpa using this
    have HAD := Lib.hid had
    clear had
    have hne : ((k : Int) == (k : Int) + 1) = false := by simp; omega
    go_enter Try.func34, Try.ntmps34
    go_wp2
    refine wp_region_phase (fun _ => True) [true, true, true, true, true, true, false, false] 7 _ _ _ (by kernel_rfl) rfl rfl (by kernel_rfl) rfl rfl (fun _ _ _ _ _ h => h) (trivial) ?_
    intro S HS
    simp only [taken, leftOut]
    go_big_quiet_want; go_big_quiet_op; go_big_quiet_on
    go_big_quiet_want; go_big_quiet_op; go_big_quiet_on
    go_big_quiet_want; apply quiet_value; (· (intro w' hw; go_simp; try rfl)); simp only [Act.put, List.setIfInBounds_toArray, List.set_cons_succ, List.set_cons_zero]; go_big_quiet_on
    go_big_quiet_want; go_big_quiet_op; go_big_quiet_on
    go_big_quiet_want; go_big_quiet_op; go_big_quiet_on
    go_big_quiet_want; apply quiet_value; (· (intro w' hw; go_simp; try rfl)); simp only [Act.put, List.setIfInBounds_toArray, List.set_cons_succ, List.set_cons_zero]; go_big_quiet_on
    refine wpQuiet_nil ?_
    refine wpTail_more ?_
    have hnews : ∀ j u, (xs.drop ((k + 1) * 3))[j]? = some u → w.drew.cell? (ad.add j) = some u := by
      intro j u hj
      have hx := HX.out
      have hjl : j < (xs.drop ((k + 1) * 3)).length := (List.getElem?_eq_some_iff.1 hj).1
      rw [List.length_drop] at hjl
      have hcap : cap ≠ k + 1 := by omega
      rw [HAD.out, if_neg hcap, Addr.add_lit]
      show w.cell? _ = _
      rw [cell_of_row w g _ cur 37 (0, 0) HG.out, ← hj, List.getElem?_drop, ← HT.out, List.getElem?_take_of_lt (by omega)]
      simp
    have HN := Lib.hid hnews
    have hl : (xs.drop ((k + 1) * 3)).length = q * 3 := by rw [List.length_drop, HX.out]; omega
    have HL := Lib.hid hl
    clear hnews hl
    go_wp2_with (at_builtin; refine wpList_append_in rfl (.tmp 22) (.tmp 25) 27 rfl 37 i0 3 Try.underlying27 hi hz1 g k cap cur HG.out rfl ad q _ (xs.drop ((k + 1) * 3)) rfl HL.out HN.out ?c1 ?c2 ?c3 ?_)
    case c1 => exact fun u hu => h1 u (List.mem_of_mem_drop hu)
    case c2 => omega
    case c3 => rw [HL.out, HZ.out]; omega
    intro new1 hn1
    go_wp2_with fail
    refine ThenS.mk ((HS.out _).2 trivial) ?_
    refine wpTail_last ?_
    have hg1 := Lib.hid (setRow_heap w.drew g cur new1 37 (0, 0) HG.out)
    have hc1 : (k + q) * 3 + 1 * 3 ≤ new1.size := by have := hn1.out.1; rw [this, HZ.out]; omega
    have HC1 := Lib.hid hc1
    clear hc1
    go_wp2_with (with_reducible refine wpList_clear_row rfl (.tmp 31) 27 rfl 37 i0 zeroLz Try.underlying27 hi hz zero_one 3 (by omega) rfl g ((k + q) * 3) 1 _ new1 hg1.out rfl HC1.out ?_; intro new2 hn2)
    go_ret
    refine ⟨rfl, own_setRow hg1.out hb (by omega) hm (by rw [hn2.out.1, hn1.out.1, HZ.out]) ?_ ?_, ?_⟩
    · have := HX.out
      rw [List.length_append, List.length_take, HL.out]; omega
    · have e1 := hn1.out.2
      have hx := HX.out
      rw [show k * 3 + (xs.length - (k + 1) * 3) = (k + q) * 3 by omega] at e1
      rw [hn2.out.2, e1, ← HT.out, List.take_take, Nat.min_eq_left (by omega)]
    · exact grown_setRow (grown_setRow (grown_drew (grown_refl w _)) _) _

theorem new_any (w : World) : Calls Try.prog 9 #[] w fun e w' => e = .returned (.pointer (some ⟨w.heap.size, 0, none⟩)) ∧ Tab w' w.heap.size w.heap.size (.slice none 0 0) [] ∧ Below w.heap.size w w' := by
  have HB := Lib.hid (Box.new w 56 #[.slice none 0 0])
  go_enter Try.func9, Try.ntmps9
  go_wp2
  go_ret
  exact ⟨rfl, ⟨HB.out, World.ownsRow_nil _ _ _ _, Nat.le_refl _⟩, (Below.refl _ _).alloc (Nat.le_refl _) _⟩

def getL (L : List Lz) (id : Int) : Option Lz := if isIn L id then L[kOf L id]? else none

theorem isIn_get (hs : Rises L) (id : Int) (h : isIn L id = true) : ∃ p, L[kOf L id]? = some p ∧ p.1 = id := by
  unfold isIn at h
  obtain ⟨q, hq, he⟩ := List.any_eq_true.1 h
  obtain ⟨j, hj, hjq⟩ := List.getElem_of_mem hq
  have he' : q.1 = id := by simpa using he
  have hk : kOf L id = j := kOf_is L id j (by omega) (fun i p hi hp => by
    have h1 := List.getElem?_eq_some_iff.1 hp
    have := List.pairwise_iff_getElem.1 hs i j h1.1 hj hi
    rw [h1.2, hjq] at this; omega) (fun i p hi hp => by
    have h1 := List.getElem?_eq_some_iff.1 hp
    rcases Nat.lt_or_ge j i with h2 | h2
    · have := List.pairwise_iff_getElem.1 hs j i hj h1.1 h2
      rw [h1.2, hjq] at this; omega
    · obtain rfl : i = j := by omega
      have h3 := h1.2; rw [hjq] at h3; rw [← h3]; omega)
  exact ⟨q, by rw [hk, List.getElem?_eq_getElem hj, hjq], he'⟩
def delL (L : List Lz) (id : Int) : List Lz := L.take (kOf L id) ++ L.drop (kOf L id + 1)
theorem close_no (id : Int) (h : Tab w base n v L) (hs : Rises L) (hl : L.length ≤ 1000) (hno : isIn L id = false) :
    Calls Try.prog 17 #[.pointer (some ⟨n, 0, none⟩), .int .i64 id] w fun e w' => e = .returned (.int .i64 100) ∧ Below w.heap.size w w' := by
  have C1 := Lib.hid (find_any id h hs hl)
  rw [hno] at C1
  clear h hno
  go_enter Try.func17, Try.ntmps17
  go_wp2_with fail
  refine C1.out.mono ?_
  rintro e w1 ⟨rfl, b1⟩
  go_wp2
  go_ret
  exact ⟨rfl, b1⟩
set_option maxHeartbeats 1000000 in
theorem close_ok (id : Int) (h : Tab w base n v L) (hb : base ≤ w.heap.size) (hs : Rises L) (hl : L.length ≤ 1000) (hok : isIn L id = true) :
    Calls Try.prog 17 #[.pointer (some ⟨n, 0, none⟩), .int .i64 id] w fun e w' => e = .returned (.int .i64 0) ∧ ∃ v', Tab w' base n v' (delL L id) ∧ Goes w w' n v v' := by
  have C1 := Lib.hid (find_any id h hs hl)
  obtain ⟨p, hp, _⟩ := isIn_get hs id hok
  rw [hok] at C1
  obtain ⟨k, hk⟩ : ∃ k, k = kOf L id := ⟨_, rfl⟩
  rw [← hk] at C1 hp
  have HDL := Lib.hid (show delL L id = L.take k ++ L.drop (k + 1) by rw [delL, ← hk])
  have hlt := (List.getElem?_eq_some_iff.1 hp).1
  obtain ⟨ad, c, rfl, _⟩ := own_shape h.row
  obtain ⟨g, rfl⟩ : ∃ g, ad = some ⟨g, 0, none⟩ := by
    rcases h.row.2 with ⟨_, h1⟩ | ⟨g, cap, cur, h0, _⟩
    · omega
    · exact ⟨g, by injection h0⟩
  have HT := Lib.hid h
  obtain ⟨q, hq⟩ : ∃ q, L.length = k + 1 + q := ⟨L.length - (k + 1), by omega⟩
  have HQ := Lib.hid hq
  clear h hok hk hp
  go_enter Try.func17, Try.ntmps17
  go_wp2_with fail
  refine C1.out.mono ?_
  rintro e w1 ⟨rfl, b1⟩
  have HB1 := Lib.hid b1
  have HT1 := Lib.hid (HT.out.below b1 (Nat.le_refl _))
  have c0 : w1.cell? ⟨n, 0, none⟩ = some (.slice (some ⟨g, 0, none⟩) L.length c) := HT1.out.box.cell 0
  have hrow := HT1.out.row
  have CD := Lib.hid (delete_any g k q c base (cellsOf L) w1 (by rw [← HQ.out]; exact hrow) (cells_one L))
  rw [← HQ.out] at CD
  have hn1 := HT1.out.box.lt
  clear b1 C1 hrow hq
  go_wp2_with fail
  refine CD.out.mono ?_
  rintro e w2 ⟨rfl, own2, g2⟩
  have hvn := HT1.out.vn
  have HN2 := Lib.hid (HT1.out.box.grown g2 (fun e => hvn e.symm))
  have own2' : w2.ownsRow base 37 3 (.slice (some ⟨g, 0, none⟩) (delL L id).length c) (delL L id).length (cellsOf (delL L id)) := by
    have e1 : (L.take k ++ L.drop (k + 1)).length = k + q := by have := HQ.out; rw [List.length_append, List.length_take, List.length_drop]; omega
    rw [HDL.out, e1, cells_append, ← cells_take, ← cells_drop]
    exact own2
  have e2 : k + q = (delL L id).length := by have := HQ.out; rw [HDL.out, List.length_append, List.length_take, List.length_drop]; omega
  rw [e2]
  have HO2 := Lib.hid own2'
  have HG2 := Lib.hid g2
  have c2 : w2.cell? ⟨n, 0, none⟩ = some (.slice (some ⟨g, 0, none⟩) L.length c) := HN2.out.cell 0
  have f2 := HN2.out.frozen 0
  have hn2 := HN2.out.lt
  clear own2 own2' g2 CD c0 e2
  go_wp2
  go_ret
  have hne := own_box_ne HO2.out HN2.out (by decide)
  exact ⟨rfl, _, ⟨HN2.out.set 0 _, own_stays HO2.out (fun k hk => Below.heap_setCell _ _ _ _ (fun e => hne (hk.trans (congrArg some e)))), HT.out.hn⟩, ⟨((Touch.of_below HB1.out).grown HG2.out (fun k hk => .inl (.inr hk))).setCell (.inl rfl) _, fun k hk => .inl hk⟩⟩
theorem close_all (id : Int) (h : Tab w base n v L) (hb : base ≤ w.heap.size) (hs : Rises L) (hl : L.length ≤ 1000) :
    Calls Try.prog 17 #[.pointer (some ⟨n, 0, none⟩), .int .i64 id] w fun e w' => e = .returned (.int .i64 (if isIn L id then 0 else 100)) ∧ ∃ v', Tab w' base n v' (if isIn L id then delL L id else L) ∧ Goes w w' n v v' := by
  cases ho : isIn L id with
  | false => exact (close_no id h hs hl ho).mono fun _ _ ⟨he, hb'⟩ => ⟨he, v, h.below hb' (Nat.le_refl _), Goes.of_below hb'⟩
  | true => exact close_ok id h hb hs hl ho
end Go.Proofs.Ytkgnooogppkieaa
