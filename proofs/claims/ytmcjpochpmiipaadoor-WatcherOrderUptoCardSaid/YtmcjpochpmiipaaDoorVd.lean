/- slices.Insert of one watch. Conditions: the row is the call's own, the watch lies in another block. -/
import Derived.Test.YtmcjpochpmiipaaDoorVc
import Derived.Test.YtmcjpochpmiipaaDoorCopy
namespace Go.Proofs.YtmcjpochpmiipaaDoor
open Go.RowKit
set_option linter.unusedVariables false
set_option linter.unusedSimpArgs false
variable {w w' : World} {base n : Nat} {v : Value} {L : List Wt}

theorem row31 : (Tryd.prog.info? 31).map (fun i => (i.zero, i.size, i.bytes)) = some (some (.agg #[.int .i64 0, .string ⟨#[]⟩, .bool false]), 3, 32) := by kernel_rfl
theorem elem46 : Tryd.prog.underlying 46 = some (.slice (Tryd.prog.elem 46)) := by kernel_rfl
theorem size46 (w : World) : (sizeOf (Tryd.prog.elem 46)).run Tryd.prog w = .ok 3 w := by kernel_rfl
theorem size31 (w : World) : (sizeOf 31).run Tryd.prog w = .ok 3 w := by kernel_rfl
theorem isz31 : (Tryd.prog.info? 31).map (·.size) = some 3 := by kernel_rfl
theorem tc_one (x : Wt) : ∀ u ∈ tc x, u.oneCell' = true := by simp [tc, Value.oneCell']
theorem box_cells {w : World} {xb : Nat} {x : Wt} (hx : Box w xb 31 #[.int .i64 x.1, .string x.2.1, .bool x.2.2]) : ∀ j u, (tc x)[j]? = some u → w.cell? ((⟨xb, 0, none⟩ : Addr).add j) = some u := by
  intro j u hj
  rw [Addr.add_lit, Nat.zero_add, hx.cell j]
  simpa [tc] using hj
theorem box_src {w : World} {xb : Nat} {x : Wt} (hx : Box w xb 31 #[.int .i64 x.1, .string x.2.1, .bool x.2.2]) : Src w (some ⟨xb, 0, none⟩) 1 3 (tc x) := by
  refine ⟨rfl, by simp [tc, Value.oneCell'], .inr ⟨_, rfl, fun j u hj => ?_⟩⟩
  rw [Addr.add_lit, Nat.zero_add, hx.cell j]
  simpa [tc] using hj

set_option maxHeartbeats 1000000 in
theorem insert_end (x : Wt) (ad : Option Addr) (c : Nat) (h : w.ownsRow base 31 3 (.slice ad L.length c) L.length (cellsOf L)) (hl : L.length ≤ 1000) (xb : Nat) (hx : Box w xb 31 #[.int .i64 x.1, .string x.2.1, .bool x.2.2]) (hb : base ≤ w.heap.size) :
    Calls Tryd.prog 26 #[.slice ad L.length c, .int .i64 (L.length : Int), .slice (some ⟨xb, 0, none⟩) 1 1] w fun e w' => ∃ v', e = .returned v' ∧ w'.ownsRow base 31 3 v' (L.length + 1) (cellsOf (L ++ [x])) ∧
      w.grownBy w' (Value.slice ad L.length c).ownBlock ∧ (v'.ownBlock = (Value.slice ad L.length c).ownBlock ∨ v'.ownBlock = some w.heap.size) := by
  have s1 : ∀ w : World, ∃ r, (Instr.sliceAt 46 (.slice ad L.length c) (some (.int .i64 (L.length : Int))) none none).run Tryd.prog w = .ok r w := fun w => by
    rcases h.2 with ⟨h0, h1⟩ | ⟨g, cap, cur, h0, _, _, hc, _⟩
    · obtain ⟨rfl, rfl⟩ : ad = none ∧ c = 0 := by injection h0 with a b c; exact ⟨a, c⟩
      rw [h1]
      exact ⟨.slice none 0 0, by kernel_rfl⟩
    · obtain ⟨rfl, rfl⟩ : ad = some ⟨g, 0, none⟩ ∧ c = cap := by simpa using h0
      exact ⟨_, cut_l elem46 size46 g 0 L.length c w L.length (Nat.le_refl _)⟩
  obtain ⟨r, hr⟩ := s1 w
  obtain ⟨i0, hi, hz0, hz1, hz2⟩ := info_parts row31
  have HI := Lib.hid hi
  have HZZ := Lib.hid hz0
  have HO := Lib.hid h
  have HSX := Lib.hid (box_src hx)
  have HB := Lib.hid hb
  have h1 : ((1 : Int) == 0) = false := by decide
  clear h hx hi hz0 s1
  go_enter Tryd.func26, Tryd.ntmps26
  go_wp2_with (at_builtin; refine wpList_append_at rfl (.tmp 23) (.tmp 24) 46 rfl base 31 i0 _ 3 32 Tryd.underlying46 HI.out HZZ.out hz1 hz2 rfl (by decide) _ _ _ rfl HO.out _ _ _ _ rfl HSX.out (by unfold maxLen; omega) (by omega) HB.out ?_; intro v2 w2 own2 g2 at2)
  go_ret
  exact ⟨_, rfl, by rw [cells_snoc]; exact own2, g2, at2⟩

theorem insert_lists (cur : List Value) (L : List Wt) (k : Nat) (x : Wt) (hk : k ≤ L.length) (ht : cur.take (L.length * 3) = cellsOf L) (hc : (L.length + 1) * 3 ≤ cur.length) (new1 new2 : List Value)
    (h1 : new1 = cur.take ((k + 1) * 3) ++ cellsOf (L.drop k) ++ cur.drop ((k + 1) * 3 + (cellsOf (L.drop k)).length)) (h2 : new2 = new1.take (k * 3) ++ tc x ++ new1.drop (k * 3 + (tc x).length)) :
    new1.length = cur.length ∧ new2.length = cur.length ∧ new2.take ((L.length + 1) * 3) = cellsOf (L.take k ++ x :: L.drop k) := by
  have hD : (cellsOf (L.drop k)).length = (L.length - k) * 3 := by rw [cells_len, List.length_drop]
  have hA : (cur.take ((k + 1) * 3)).length = (k + 1) * 3 := by rw [List.length_take]; omega
  have hX : (tc x).length = 3 := rfl
  have hlen1 : new1.length = cur.length := by rw [h1, List.length_append, List.length_append, hA, hD, List.length_drop]; omega
  have ha : new1.take (k * 3) = cellsOf (L.take k) := by
    rw [h1, List.append_assoc, List.take_append_of_le_length (by omega), List.take_take, Nat.min_eq_left (by omega), ← cells_take, ← ht, List.take_take, Nat.min_eq_left (by omega)]
  have hb : new1.drop (k * 3 + (tc x).length) = cellsOf (L.drop k) ++ cur.drop ((k + 1) * 3 + (cellsOf (L.drop k)).length) := by
    rw [h1, List.append_assoc, List.drop_left' (by rw [hA, hX]; omega)]
  have hT : (cellsOf (L.take k)).length = k * 3 := by rw [cells_len, List.length_take]; omega
  refine ⟨hlen1, ?_, ?_⟩
  · rw [h2, List.length_append, List.length_append, List.length_take, List.length_drop, hlen1, hX]; omega
  · rw [h2, ha, hb, ← List.append_assoc, List.take_left' (by rw [List.length_append, List.length_append, hT, hX, hD]; omega)]
    rw [cells_append]
    simp [cellsOf]
set_option maxHeartbeats 2000000 in
theorem insert_room (x : Wt) (k g c : Nat) (h : w.ownsRow base 31 3 (.slice (some ⟨g, 0, none⟩) L.length c) L.length (cellsOf L)) (hk : k < L.length) (hroom : L.length + 1 ≤ c) (hl : L.length ≤ 1000) (xb : Nat) (hx : Box w xb 31 #[.int .i64 x.1, .string x.2.1, .bool x.2.2]) (hne : xb ≠ g) (hb : base ≤ w.heap.size) :
    Calls Tryd.prog 26 #[.slice (some ⟨g, 0, none⟩) L.length c, .int .i64 (k : Int), .slice (some ⟨xb, 0, none⟩) 1 1] w fun e w' => e = .returned (.slice (some ⟨g, 0, none⟩) (L.length + 1) c) ∧ w'.ownsRow base 31 3 (.slice (some ⟨g, 0, none⟩) (L.length + 1) c) (L.length + 1) (cellsOf (L.take k ++ x :: L.drop k)) ∧ w.grownBy w' (some g) := by
  rcases h.2 with ⟨h0, _⟩ | ⟨g', cap', cur, he, hbg, hg, hc, hm, hcs, ht⟩
  · cases h0
  obtain ⟨rfl, rfl⟩ : g = g' ∧ c = cap' := by simpa using he
  have hcm : c ≤ 9223372036854775807 := by unfold maxLen at hm; omega
  have s1 : ∀ w : World, (Instr.sliceAt 46 (.slice (some ⟨g, 0, none⟩) L.length c) (some (.int .i64 (k : Int))) none none).run Tryd.prog w = .ok (.slice (some (if c = k then ⟨g, 0, none⟩ else ⟨g, 0 + k * 3, none⟩)) (L.length - k) (c - k)) w := fun w => cut_l elem46 size46 g 0 L.length c w k (by omega)
  have s2 : ∀ w : World, (Instr.sliceAt 46 (.slice (some ⟨g, 0, none⟩) L.length c) none (some (.int .i64 ((L.length : Int) + 1))) none).run Tryd.prog w = .ok (.slice (some ⟨g, 0, none⟩) (L.length + 1) c) w := fun w => by
    have := cut_h elem46 size46 g 0 L.length c w (L.length + 1) hroom
    simpa using this
  have s3 : ∀ w : World, (Instr.sliceAt 46 (.slice (some ⟨g, 0, none⟩) (L.length + 1) c) (some (.int .i64 ((k : Int) + 1))) none none).run Tryd.prog w = .ok (.slice (some ⟨g, (k + 1) * 3, none⟩) (L.length - k) (c - (k + 1))) w := fun w => by
    have := cut_l elem46 size46 g 0 (L.length + 1) c w (k + 1) (by omega)
    rw [if_neg (by omega), show L.length + 1 - (k + 1) = L.length - k by omega, Nat.zero_add] at this
    simpa using this
  have s4 : ∀ w : World, (Instr.sliceAt 46 (.slice (some ⟨g, 0, none⟩) (L.length + 1) c) (some (.int .i64 (k : Int))) none none).run Tryd.prog w = .ok (.slice (some ⟨g, k * 3, none⟩) (L.length + 1 - k) (c - k)) w := fun w => by
    have := cut_l elem46 size46 g 0 (L.length + 1) c w k (by omega)
    rw [if_neg (by omega), Nat.zero_add] at this
    exact this
  have hov : ∀ lb cb, (callFunc 40 #[.slice (some ⟨xb, 0, none⟩) 1 1, .slice (some ⟨g, (k + 1) * 3, none⟩) lb cb]).run Tryd.prog w = .ok (.value (.bool false)) w := fun lb cb => by
    have hxh : w.heap[xb]? = some (.cells #[.int .i64 x.1, .string x.2.1, .bool x.2.2] 31) := hx
    rw [run_callFunc_extern Tryd.func40 (by kernel_rfl) (by kernel_rfl) (by kernel_rfl) (e := Extern.SlicesOverlaps.overlaps #[46, 46] #[4]) (by kernel_rfl),
      Lib.run_overlaps_apart w 46 4 31 Tryd.underlying46 3 size31 ⟨xb, 0, none⟩ ⟨g, (k + 1) * 3, none⟩ 1 1 lb cb hne 31 31 3 (c * 3) (by simp [World.shape?, hxh]) (by simp [World.shape?, hg, hcs]) (by omega) (hx.frozen 0) (hx.frozen 3)]
    rfl
  have HG := Lib.hid hg
  have HX := Lib.hid hx
  have HT := Lib.hid ht
  have HC := Lib.hid hcs
  have HBG := Lib.hid hbg
  have HWR := Lib.hid (show IntKind.i64.wrap ((k : Int) + 1) = (k : Int) + 1 from IntWalk.i64_in _ (by omega))
  have h1 : ((1 : Int) == 0) = false := by decide
  have h2 : ((k : Int) == (L.length : Int)) = false := by simp; omega
  have h3 : ¬ (c : Int) < (L.length : Int) + 1 := by omega
  clear he hg hx ht hcs h hbg
  go_enter Tryd.func26, Tryd.ntmps26
  go_wp2_with (simp only [hov])
  refine wp_region_phase (fun _ => True) [true, true, true, true, true, true, true, true, false] 8 _ _ _ (by kernel_rfl) rfl rfl (by kernel_rfl) rfl rfl (fun _ _ _ _ _ h => h) (trivial) ?_
  intro S HS
  simp only [taken, leftOut]
  go_big_quiet_want; go_big_quiet_op; go_big_quiet_on
  go_big_quiet_want; go_big_quiet_op; go_big_quiet_on
  go_big_quiet_want; go_big_quiet_op; go_big_quiet_on
  go_big_quiet_want; apply quiet_value; (· (intro w' hw; have hwr := HWR.out; go_simp; try rfl)); simp only [Act.put, List.setIfInBounds_toArray, List.set_cons_succ, List.set_cons_zero]; go_big_quiet_on
  go_big_quiet_want; apply quiet_value; (· (intro w' hw; go_simp; try rfl)); simp only [Act.put, List.setIfInBounds_toArray, List.set_cons_succ, List.set_cons_zero]; go_big_quiet_on
  go_big_quiet_want; go_big_quiet_op; go_big_quiet_on
  go_big_quiet_want; go_big_quiet_op; go_big_quiet_on
  go_big_quiet_want; apply quiet_value; (· (intro w' hw; go_simp; try rfl)); simp only [Act.put, List.setIfInBounds_toArray, List.set_cons_succ, List.set_cons_zero]; go_big_quiet_on
  refine wpQuiet_nil ?_
  refine wpTail_last ?_
  have hD : (cellsOf (L.drop k)).length = (L.length - k) * 3 := by rw [cells_len, List.length_drop]
  have hsrc : ∀ j u, (cellsOf (L.drop k))[j]? = some u → w.drew.cell? ((⟨g, k * 3, none⟩ : Addr).add j) = some u := by
    intro j u hj
    have hjl : j < (cellsOf (L.drop k)).length := (List.getElem?_eq_some_iff.1 hj).1
    rw [hD] at hjl
    rw [Addr.add_lit]
    show w.cell? _ = _
    rw [cell_of_row w g _ cur 31 (0, 0) HG.out, ← hj, ← cells_drop, List.getElem?_drop, ← HT.out, List.getElem?_take_of_lt (by omega)]
    simp
  have HSRC := Lib.hid hsrc
  have HD := Lib.hid hD
  have HGD := Lib.hid (show w.drew.heap[g]? = some (.cells cur 31 (0, 0)) from HG.out)
  clear hsrc hD
  go_wp2_with (with_reducible refine wpList_copy_row rfl (.tmp 73) (.tmp 76) 46 46 rfl 31 3 Tryd.underlying46 isz31 g ((k + 1) * 3) (L.length - k) _ cur 31 HGD.out rfl ⟨g, k * 3, none⟩ (L.length + 1 - k) _ (cellsOf (L.drop k)) rfl ?c1 HSRC.out ?c3 (cells_one _) ?_)
  case c1 => rw [HD.out]; simp only [Nat.min_def]; split <;> omega
  case c3 => rw [HD.out, HC.out]; omega
  intro new1 hn1
  have hg1 := Lib.hid (setRow_heap w.drew g cur new1 31 (0, 0) HG.out)
  have hxs := Lib.hid ((HX.out.drew).setRow_other new1 hne)
  have HSX2 := Lib.hid (box_cells hxs.out)
  have hn1' := hn1.out
  have hs1 : new1.size = c * 3 := by
    rw [hn1', List.size_toArray, List.length_append, List.length_append, List.length_take, List.length_drop, HD.out, Array.length_toList, HC.out]; omega
  have HS1 := Lib.hid hs1
  clear hn1' hs1
  go_wp2_with (with_reducible refine wpList_copy_row rfl (.tmp 80) (.tmp 81) 46 46 rfl 31 3 Tryd.underlying46 isz31 g (k * 3) (L.length + 1 - k) _ new1 31 hg1.out rfl ⟨xb, 0, none⟩ 1 _ (tc x) rfl ?d1 HSX2.out ?d3 (tc_one x) ?_)
  case d1 => show 3 = _; simp only [Nat.min_def]; split <;> omega
  case d3 => rw [HS1.out]; show k * 3 + 3 ≤ _; omega
  intro new2 hn2
  go_wp2
  go_ret
  obtain ⟨e1, e2, e3⟩ := insert_lists cur.toList L k x (by omega) HT.out (by have := HC.out; have h5 : cur.toList.length = cur.size := Array.length_toList; omega) new1.toList new2.toList (by rw [hn1.out]; simp) (by rw [hn2.out]; simp)
  refine ⟨rfl, own_setRow hg1.out HBG.out (by omega) hm (by have := HC.out; have h5 : cur.toList.length = cur.size := Array.length_toList; have h6 : new2.toList.length = new2.size := Array.length_toList; omega) (by rw [cells_len, List.length_append, List.length_take, List.length_cons, List.length_drop]; omega) e3, ?_⟩
  exact grown_setRow (grown_setRow (grown_drew (grown_refl w _)) _) _

theorem insert_lists2 (row : List Value) (L : List Wt) (k : Nat) (x : Wt) (hk : k ≤ L.length) (ht : row.take (k * 3) = cellsOf (L.take k)) (hc : (L.length + 1) * 3 ≤ row.length) (new1 new2 : List Value)
    (h1 : new1 = row.take (k * 3) ++ tc x ++ row.drop (k * 3 + (tc x).length)) (h2 : new2 = new1.take ((k + 1) * 3) ++ cellsOf (L.drop k) ++ new1.drop ((k + 1) * 3 + (cellsOf (L.drop k)).length)) :
    new1.length = row.length ∧ new2.length = row.length ∧ new2.take ((L.length + 1) * 3) = cellsOf (L.take k ++ x :: L.drop k) := by
  have hD : (cellsOf (L.drop k)).length = (L.length - k) * 3 := by rw [cells_len, List.length_drop]
  have hX : (tc x).length = 3 := rfl
  have hT : (cellsOf (L.take k)).length = k * 3 := by rw [cells_len, List.length_take]; omega
  have hlen1 : new1.length = row.length := by rw [h1, List.length_append, List.length_append, ht, hT, hX, List.length_drop]; omega
  have ha : new1.take ((k + 1) * 3) = cellsOf (L.take k) ++ tc x := by
    rw [h1, ht, List.take_left' (by rw [List.length_append, hT, hX]; omega)]
  refine ⟨hlen1, ?_, ?_⟩
  · rw [h2, List.length_append, List.length_append, ha, List.length_append, hT, hX, hD, List.length_drop]; omega
  · rw [h2, ha, List.take_left' (by rw [List.length_append, List.length_append, hT, hX, hD]; omega), cells_append]
    simp [cellsOf]
set_option maxHeartbeats 2000000 in
theorem insert_grow (x : Wt) (k g c : Nat) (h : w.ownsRow base 31 3 (.slice (some ⟨g, 0, none⟩) L.length c) L.length (cellsOf L)) (hk : k < L.length) (hroom : ¬ L.length + 1 ≤ c) (hl : L.length ≤ 1000) (xb : Nat) (hx : Box w xb 31 #[.int .i64 x.1, .string x.2.1, .bool x.2.2]) (hb : base ≤ w.heap.size) :
    Calls Tryd.prog 26 #[.slice (some ⟨g, 0, none⟩) L.length c, .int .i64 (k : Int), .slice (some ⟨xb, 0, none⟩) 1 1] w fun e w' => ∃ v', e = .returned v' ∧ w'.ownsRow base 31 3 v' (L.length + 1) (cellsOf (L.take k ++ x :: L.drop k)) ∧ w.grownBy w' (some g) ∧ v'.ownBlock = some w.heap.size := by
  rcases h.2 with ⟨h0, _⟩ | ⟨g', cap', cur, he, hbg, hg, hc, hm, hcs, ht⟩
  · cases h0
  obtain ⟨rfl, rfl⟩ : g = g' ∧ c = cap' := by simpa using he
  obtain rfl : c = L.length := by omega
  obtain ⟨i0, hi, hz0, hz1, hz2⟩ := info_parts row31
  obtain ⟨G, hG⟩ : ∃ G, G = grownCap w (L.length + 1) L.length 31 := ⟨_, rfl⟩
  have hGn : L.length + 1 ≤ G := by rw [hG]; exact grownCap_ge w _ _ _
  have hGm : G ≤ maxLen := by rw [hG]; exact grownCap_le_maxLen w _ _ _ (by unfold maxLen; omega)
  have hG63 : G ≤ 9223372036854775807 := by unfold maxLen at hGm; omega
  have hcell : ∀ j u, (cellsOf (L.take k))[j]? = some u → w.drew.cell? ((⟨g, 0, none⟩ : Addr).add j) = some u := by
    intro j u hj
    rw [Addr.add_lit, Nat.zero_add]
    show w.cell? _ = _
    rw [cell_of_row w g _ cur 31 (0, 0) hg]
    rw [← cells_take, List.getElem?_take] at hj
    split at hj
    · rw [← ht, List.getElem?_take_of_lt (by omega)] at hj
      simpa using hj
    · cases hj
  have hold : (Builtin.firstCells i0.size k (.slice (some ⟨g, 0, none⟩) k L.length)).run Tryd.prog w.drew = .ok (cellsOf (L.take k)).toArray w.drew := by
    rw [hz1]
    exact run_firstCells_some w.drew 3 k ⟨g, 0, none⟩ k L.length (cellsOf (L.take k)) (by rw [cells_len, List.length_take]; omega) hcell
  obtain ⟨ROW, hROW⟩ : ∃ ROW : Array Value, ROW = (cellsOf (L.take k)).toArray ++ Builtin.zeroCells (Value.agg #[.int .i64 0, .string ⟨#[]⟩, .bool false]).cells (L.length + 1 - k) ++ Builtin.zeroCells (Value.agg #[.int .i64 0, .string ⟨#[]⟩, .bool false]).cells (G - (L.length + 1)) := ⟨_, rfl⟩
  have hkk : (L.length : Int) + 1 - (k : Int) = ((L.length + 1 - k : Nat) : Int) := by omega
  have hrz : ∀ ty, (Builtin.append_ #[46, 3] ty #[.slice (some ⟨g, 0, none⟩) k L.length, .int .i64 ((L.length : Int) + 1 - (k : Int))]).run Tryd.prog w = .ok (.slice (some ⟨w.heap.size, 0, none⟩) (L.length + 1) G) (w.drew.alloc (.cells ROW 31)) := fun ty => by
    have h := Lib.run_append_grow_zeros w 46 3 ty 31 i0 _ .i64 .i64 Tryd.underlying46 Tryd.underlying3 hi hz0 (some ⟨g, 0, none⟩) k L.length (cellsOf (L.take k)) hold (L.length + 1 - k) (by omega) (by omega) (by omega) (by omega) (by rw [hz2]; omega) (by rw [hz2, show k + (L.length + 1 - k) = L.length + 1 by omega]; exact growslice_fits (by omega) (by omega))
    rw [show k + (L.length + 1 - k) = L.length + 1 by omega, ← hG, ← hROW] at h
    rw [hkk]
    exact h
  have hRs : ROW.size = G * 3 := by
    rw [hROW, Array.size_append, Array.size_append, size_zeroCells, size_zeroCells, List.size_toArray, cells_len, List.length_take]
    show min k L.length * 3 + (L.length + 1 - k) * 3 + (G - (L.length + 1)) * 3 = G * 3
    omega
  have hRt : ROW.toList.take (k * 3) = cellsOf (L.take k) := by
    rw [hROW, Array.toList_append, Array.toList_append, List.append_assoc]
    exact List.take_left' (by rw [cells_len, List.length_take]; omega)
  have s0 : ∀ w : World, (Instr.sliceAt 46 (.slice (some ⟨g, 0, none⟩) L.length L.length) (some (.int .i64 (k : Int))) none none).run Tryd.prog w = .ok (.slice (some ⟨g, k * 3, none⟩) (L.length - k) (L.length - k)) w := fun w => by
    have := cut_l elem46 size46 g 0 L.length L.length w k (by omega)
    rw [if_neg (by omega), Nat.zero_add] at this
    exact this
  have s1 : ∀ w : World, (Instr.sliceAt 46 (.slice (some ⟨g, 0, none⟩) L.length L.length) none (some (.int .i64 (k : Int))) none).run Tryd.prog w = .ok (.slice (some ⟨g, 0, none⟩) k L.length) w := fun w => cut_h elem46 size46 g 0 L.length L.length w k (by omega)
  obtain ⟨N, hN⟩ : ∃ N, N = w.heap.size := ⟨_, rfl⟩
  have s2 : ∀ w : World, (Instr.sliceAt 46 (.slice (some ⟨N, 0, none⟩) (L.length + 1) G) (some (.int .i64 (k : Int))) none none).run Tryd.prog w = .ok (.slice (some ⟨N, k * 3, none⟩) (L.length + 1 - k) (G - k)) w := fun w => by
    have := cut_l elem46 size46 N 0 (L.length + 1) G w k (by omega)
    rw [if_neg (by omega), Nat.zero_add] at this
    exact this
  have s3 : ∀ w : World, (Instr.sliceAt 46 (.slice (some ⟨N, 0, none⟩) (L.length + 1) G) (some (.int .i64 ((k : Int) + 1))) none none).run Tryd.prog w = .ok (.slice (some ⟨N, (k + 1) * 3, none⟩) (L.length - k) (G - (k + 1))) w := fun w => by
    have := cut_l elem46 size46 N 0 (L.length + 1) G w (k + 1) (by omega)
    rw [if_neg (by omega), show L.length + 1 - (k + 1) = L.length - k by omega, Nat.zero_add] at this
    simpa using this
  obtain ⟨w1, hw1⟩ : ∃ w1, w1 = w.drew.alloc (.cells ROW 31) := ⟨_, rfl⟩
  rw [← hw1, ← hN] at hrz
  have hgr : w1.heap[N]? = some (.cells ROW 31 (0, 0)) := by rw [hw1, hN]; exact heap_alloc_new w.drew _
  have hgl : g < w.heap.size := (Array.getElem?_eq_some_iff.1 hg).1
  have hold1 : w1.heap[g]? = some (.cells cur 31 (0, 0)) := by rw [hw1]; exact (Below.heap_alloc w.drew _ g hgl).trans hg
  have hx1 : Box w1 xb 31 #[.int .i64 x.1, .string x.2.1, .bool x.2.2] := by rw [hw1]; exact (hx.drew).alloc _
  have hgrow : w.grownBy w1 (some g) := by rw [hw1]; exact ⟨rfl, rfl, rfl, by simp, fun i hi _ => Below.heap_alloc w.drew _ i hi⟩
  have hxn : xb ≠ N := by have := hx.lt; omega
  have hgn : g ≠ N := by omega
  have HGR := Lib.hid hgr
  have HO1 := Lib.hid hold1
  have HX1 := Lib.hid hx1
  have HGW := Lib.hid hgrow
  have HRS := Lib.hid hRs
  have HRT := Lib.hid hRt
  have HT := Lib.hid ht
  have HC := Lib.hid hcs
  have HBN := Lib.hid (show base ≤ N by omega)
  have HNS := Lib.hid hN
  have HRZ := Lib.hid hrz
  have HWR := Lib.hid (show IntKind.i64.wrap ((k : Int) + 1) = (k : Int) + 1 from IntWalk.i64_in _ (by omega))
  have h1 : ((1 : Int) == 0) = false := by decide
  have h2 : ((k : Int) == (L.length : Int)) = false := by simp; omega
  have h3 : (L.length : Int) < (L.length : Int) + 1 := by omega
  clear he hg hx ht hcs h hbg hgr hold1 hx1 hgrow hRs hRt hrz hold hcell hROW hi hz0 hz1 hz2 hkk hG hw1 hN
  go_enter Tryd.func26, Tryd.ntmps26
  have hc2 := Lib.hid (box_cells HX1.out)
  go_wp2_with (first
    | (at_builtin; refine Lib.wpList_append_run _ rfl _ _ _ _ rfl _ _ rfl rfl _ _ (HRZ.out _) ?_)
    | (with_reducible refine wpList_copy_row rfl (.tmp 43) (.tmp 44) 46 46 rfl 31 3 Tryd.underlying46 isz31 N (k * 3) (L.length + 1 - k) _ ROW 31 HGR.out rfl ⟨xb, 0, none⟩ 1 _ (tc x) rfl ?d1 hc2.out ?d3 (tc_one x) ?_))
  case d1 => show 3 = _; simp only [Nat.min_def]; split <;> omega
  case d3 => rw [HRS.out]; show k * 3 + 3 ≤ _; omega
  intro new1 hn1
  have hg1 := Lib.hid (setRow_heap w1 N ROW new1 31 (0, 0) HGR.out)
  have hog := Lib.hid (show (w1.setRow N new1).heap[g]? = some (.cells cur 31 (0, 0)) from (Go.setRow_other w1 N g new1 hgn).trans HO1.out)
  have hs1 : new1.size = G * 3 := by
    have := hn1.out
    have h6 : ROW.toList.length = ROW.size := Array.length_toList
    rw [this, List.size_toArray, List.length_append, List.length_append, List.length_take, List.length_drop, h6, HRS.out]; have h7 : (tc x).length = 3 := rfl; omega
  have HS1 := Lib.hid hs1
  clear hs1
  go_wp2
  refine wp_region_phase (fun _ => True) [true, true, true, true, true, true, true, true, false] 8 _ _ _ (by kernel_rfl) rfl rfl (by kernel_rfl) rfl rfl (fun _ _ _ _ _ h => h) (trivial) ?_
  intro S HS
  simp only [taken, leftOut]
  go_big_quiet_want; go_big_quiet_op; go_big_quiet_on
  go_big_quiet_want; go_big_quiet_op; go_big_quiet_on
  go_big_quiet_want; go_big_quiet_op; go_big_quiet_on
  go_big_quiet_want; apply quiet_value; (· (intro w' hw; have hwr := HWR.out; go_simp; try rfl)); simp only [Act.put, List.setIfInBounds_toArray, List.set_cons_succ, List.set_cons_zero]; go_big_quiet_on
  go_big_quiet_want; apply quiet_value; (· (intro w' hw; go_simp; try rfl)); simp only [Act.put, List.setIfInBounds_toArray, List.set_cons_succ, List.set_cons_zero]; go_big_quiet_on
  go_big_quiet_want; go_big_quiet_op; go_big_quiet_on
  go_big_quiet_want; go_big_quiet_op; go_big_quiet_on
  go_big_quiet_want; apply quiet_value; (· (intro w' hw; go_simp; try rfl)); simp only [Act.put, List.setIfInBounds_toArray, List.set_cons_succ, List.set_cons_zero]; go_big_quiet_on
  refine wpQuiet_nil ?_
  refine wpTail_last ?_
  have hD : (cellsOf (L.drop k)).length = (L.length - k) * 3 := by rw [cells_len, List.length_drop]
  have hsrc : ∀ j u, (cellsOf (L.drop k))[j]? = some u → (w1.setRow N new1).drew.cell? ((⟨g, k * 3, none⟩ : Addr).add j) = some u := by
    intro j u hj
    have hjl : j < (cellsOf (L.drop k)).length := (List.getElem?_eq_some_iff.1 hj).1
    rw [hD] at hjl
    rw [Addr.add_lit]
    show (w1.setRow N new1).cell? _ = _
    rw [cell_of_row (w1.setRow N new1) g _ cur 31 (0, 0) hog.out, ← hj, ← cells_drop, List.getElem?_drop, ← HT.out, List.getElem?_take_of_lt (by omega)]
    simp
  have HSRC := Lib.hid hsrc
  have HD := Lib.hid hD
  have HGD := Lib.hid (show (w1.setRow N new1).drew.heap[N]? = some (.cells new1 31 (0, 0)) from hg1.out)
  clear hsrc hD
  go_wp2_with (with_reducible refine wpList_copy_row rfl (.tmp 50) (.tmp 53) 46 46 rfl 31 3 Tryd.underlying46 isz31 N ((k + 1) * 3) (L.length - k) _ new1 31 HGD.out rfl ⟨g, k * 3, none⟩ (L.length - k) _ (cellsOf (L.drop k)) rfl ?c1 HSRC.out ?c3 (cells_one _) ?_)
  case c1 => rw [HD.out]; simp only [Nat.min_def]; split <;> omega
  case c3 => rw [HD.out, HS1.out]; omega
  intro new2 hn2
  go_wp2
  go_ret
  obtain ⟨e1, e2, e3⟩ := insert_lists2 ROW.toList L k x (by omega) HRT.out (by have := HRS.out; have h5 : ROW.toList.length = ROW.size := Array.length_toList; omega) new1.toList new2.toList (by rw [hn1.out]; simp) (by rw [hn2.out]; simp)
  refine ⟨_, rfl, own_setRow HGD.out HBN.out (by omega) hGm (by have := HRS.out; have h5 : ROW.toList.length = ROW.size := Array.length_toList; have h6 : new2.toList.length = new2.size := Array.length_toList; omega) (by rw [cells_len, List.length_append, List.length_take, List.length_cons, List.length_drop]; omega) e3, ?_, by rw [← HNS.out]; rfl⟩
  have hgw := HGW.out
  have hns := HNS.out
  refine ⟨hgw.os, hgw.tape, hgw.output, by simpa using hgw.size, fun i hi hne => ?_⟩
  exact ((Go.setRow_other _ N i new2 (by omega)).trans (Go.setRow_other w1 N i new1 (by omega))).trans (hgw.block i hi hne)

theorem insert_any (x : Wt) (k : Nat) (ad : Option Addr) (c : Nat) (h : w.ownsRow base 31 3 (.slice ad L.length c) L.length (cellsOf L)) (hk : k ≤ L.length) (hl : L.length ≤ 1000) (xb : Nat) (hx : Box w xb 31 #[.int .i64 x.1, .string x.2.1, .bool x.2.2]) (hne : (Value.slice ad L.length c).ownBlock ≠ some xb) (hb : base ≤ w.heap.size) :
    Calls Tryd.prog 26 #[.slice ad L.length c, .int .i64 (k : Int), .slice (some ⟨xb, 0, none⟩) 1 1] w fun e w' => ∃ v', e = .returned v' ∧ w'.ownsRow base 31 3 v' (L.length + 1) (cellsOf (L.take k ++ x :: L.drop k)) ∧
      w.grownBy w' (Value.slice ad L.length c).ownBlock ∧ (v'.ownBlock = (Value.slice ad L.length c).ownBlock ∨ v'.ownBlock = some w.heap.size) := by
  rcases Nat.lt_or_ge k L.length with hlt | hge
  · obtain ⟨g, rfl⟩ : ∃ g, ad = some ⟨g, 0, none⟩ := by
      rcases h.2 with ⟨_, h1⟩ | ⟨g, cap, cur, h0, _⟩
      · omega
      · exact ⟨g, by injection h0⟩
    by_cases hr : L.length + 1 ≤ c
    · exact (insert_room x k g c h hlt hr hl xb hx (by rintro rfl; exact hne rfl) hb).mono fun _ _ ⟨e, o, gr⟩ => ⟨_, e, o, gr, .inl rfl⟩
    · exact (insert_grow x k g c h hlt hr hl xb hx hb).mono fun _ _ ⟨v', e, o, gr, lie⟩ => ⟨v', e, o, gr, .inr lie⟩
  · obtain rfl : k = L.length := by omega
    rw [List.take_length, List.drop_length]
    exact insert_end x ad c h hl xb hx hb
end Go.Proofs.YtmcjpochpmiipaaDoor
