/- lease: Get, Renew. Conditions: the table lies in the call's own memory, its ids rise. -/
import Derived.Test.YtkgnooogppkieaaLe
namespace Go.Proofs.Ytkgnooogppkieaa
open Go.RowKit
set_option linter.unusedVariables false
set_option linter.unusedSimpArgs false
variable {w w' : World} {base n : Nat} {v : Value} {L : List Lz}

def zl : Lz := (0, 0, 0)
theorem ret_box {fn : Func} {R : Ending → World → Prop} {a : Act} {w : World} {t u : Nat} {b : Nat} {T : TypeId} {x y z q : Value} (h : fn.results = #[.cell t 37, .tmp u]) (hd : a.defers = []) (ht : a.tmps.getD t undef = .pointer (some ⟨b, 0, none⟩)) (hu : a.tmps.getD u undef = q)
    (hb : Box w b 37 #[x, y, z]) (hR : R (.returned (.tuple #[.agg #[x, y, z], q])) w) : bodyPost Try.prog fn R .ret a w := by
  have c0 : w.cell? ⟨b, 0, none⟩ = some x := hb.cell 0
  have c1 : w.cell? ⟨b, 1, none⟩ = some y := hb.cell 1
  have c2 : w.cell? ⟨b, 2, none⟩ = some z := hb.cell 2
  refine bodyPost_ret (v := .tuple #[.agg #[x, y, z], q]) ?_ hd hR
  rw [Array.getD_eq_getD_getElem?] at ht hu
  simp [results, h, ht, hu, go_sem, c0, c1, c2]
theorem get_any (id : Int) (h : Tab w base n v L) (hs : Rises L) (hl : L.length ≤ 1000) :
    Calls Try.prog 15 #[.pointer (some ⟨n, 0, none⟩), .int .i64 id] w fun e w' => e = .returned (.tuple #[tv ((getL L id).getD zl), .bool (isIn L id)]) ∧ Below w.heap.size w w' := by
  have B0 := Lib.hid ((Below.refl w.heap.size w).alloc (Nat.le_refl _) (.cells #[.int .i64 0, .int .i64 0, .int .i64 0] 37))
  have HX := Lib.hid (Box.new w 37 #[.int .i64 0, .int .i64 0, .int .i64 0])
  have HT0 := Lib.hid (h.alloc (.cells #[.int .i64 0, .int .i64 0, .int .i64 0] 37))
  have C1 := Lib.hid (find_any id HT0.out hs hl)
  obtain ⟨ad, c, rfl, _⟩ := own_shape h.row
  have hn := h.box.lt
  cases hi : isIn L id with
  | false =>
    have e0 : (getL L id).getD zl = zl := by simp [getL, hi]
    rw [hi] at C1
    rw [e0]
    clear h e0
    go_enter Try.func15, Try.ntmps15
    go_wp2_with fail
    refine C1.out.mono ?_
    rintro e w1 ⟨rfl, b1⟩
    have HX1 := Lib.hid (HX.out.below b1 HX.out.lt)
    have B1 := Lib.hid (B0.out.trans (b1.mono B0.out.size))
    have p0 : w1.cell? ⟨w.heap.size, 0, none⟩ = some (.int .i64 0) := HX1.out.cell 0
    have p1 : w1.cell? ⟨w.heap.size, 1, none⟩ = some (.int .i64 0) := HX1.out.cell 1
    have p2 : w1.cell? ⟨w.heap.size, 2, none⟩ = some (.int .i64 0) := HX1.out.cell 2
    have f0 := HX1.out.frozen 0
    have f1 := HX1.out.frozen 1
    have f2 := HX1.out.frozen 2
    have hw1 := HX1.out.lt
    clear b1 C1
    go_wp2
    exact ret_box (T := 37) Try.results15 rfl rfl rfl (((HX1.out.set 0 _).set 1 _).set 2 _) ⟨rfl, ((B1.out.setCell (Nat.le_refl _) _).setCell (Nat.le_refl _) _).setCell (Nat.le_refl _) _⟩
  | true =>
    obtain ⟨p, hp, hpid⟩ := isIn_get hs id hi
    clear hpid
    have e0 : (getL L id).getD zl = p := by simp [getL, hi, hp]
    rw [hi] at C1
    rw [e0]
    obtain ⟨k, hk⟩ : ∃ k, k = kOf L id := ⟨_, rfl⟩
    rw [← hk] at C1 hp
    have hlt := (List.getElem?_eq_some_iff.1 hp).1
    have HPP := Lib.hid hp
    unfold tv
    clear h e0 hk hp
    go_enter Try.func15, Try.ntmps15
    go_wp2_with fail
    refine C1.out.mono ?_
    rintro e w1 ⟨rfl, b1⟩
    have HX1 := Lib.hid (HX.out.below b1 HX.out.lt)
    have HT1 := Lib.hid (HT0.out.below b1 (Nat.le_refl _))
    have B1 := Lib.hid (B0.out.trans (b1.mono B0.out.size))
    have c0 : w1.cell? ⟨n, 0, none⟩ = some (.slice ad L.length c) := HT1.out.box.cell 0
    obtain ⟨g, cap, he, hg, d0, d1, d2⟩ := own_cells HT1.out.row k p HPP.out
    obtain ⟨rfl, rfl⟩ : ad = some ⟨g, 0, none⟩ ∧ c = cap := by simpa using he
    have p0 : w1.cell? ⟨w.heap.size, 0, none⟩ = some (.int .i64 0) := HX1.out.cell 0
    have p1 : w1.cell? ⟨w.heap.size, 1, none⟩ = some (.int .i64 0) := HX1.out.cell 1
    have p2 : w1.cell? ⟨w.heap.size, 2, none⟩ = some (.int .i64 0) := HX1.out.cell 2
    have f0 := HX1.out.frozen 0
    have f1 := HX1.out.frozen 1
    have f2 := HX1.out.frozen 2
    have hw1 := HX1.out.lt
    clear b1 C1 he
    go_wp2
    exact ret_box (T := 37) Try.results15 rfl rfl rfl (((HX1.out.set 0 _).set 1 _).set 2 _) ⟨rfl, ((B1.out.setCell (Nat.le_refl _) _).setCell (Nat.le_refl _) _).setCell (Nat.le_refl _) _⟩

theorem own_set {e size m c g : Nat} {xs : List Value} (h : w.ownsRow base e size (.slice (some ⟨g, 0, none⟩) m c) m xs) (j : Nat) (hj : j < m * size) (u : Value) : (w.setCell ⟨g, j, none⟩ u).ownsRow base e size (.slice (some ⟨g, 0, none⟩) m c) m (xs.set j u) := by
  rcases h.2 with ⟨h0, _⟩ | ⟨g', cap', cur, he, hb, hg, hc, hm, hcs, ht⟩
  · cases h0
  obtain ⟨rfl, rfl⟩ : g = g' ∧ c = cap' := by simpa using he
  refine ⟨by rw [List.length_set]; exact h.1, .inr ⟨g, c, cur.setIfInBounds j u, rfl, hb, heap_setCell_same w g j cur e u hg, hc, hm, by simpa using hcs, ?_⟩⟩
  rw [Array.toList_setIfInBounds, List.take_set, ht]
theorem cells_set (L : List Lz) (k : Nat) (p : Lz) (h : L[k]? = some p) (t : Int) : (cellsOf L).set (k * 3 + 2) (.int .i64 t) = cellsOf (L.set k (p.1, p.2.1, t)) := by
  induction L generalizing k with
  | nil => cases h
  | cons q L ih =>
    have h2 : ∀ q : Lz, ∀ L, cellsOf (q :: L) = .int .i64 q.1 :: .int .i64 q.2.1 :: .int .i64 q.2.2 :: cellsOf L := fun _ _ => rfl
    cases k with
    | zero =>
      obtain rfl : q = p := by simpa using h
      rw [h2, List.set_cons_zero, h2]; rfl
    | succ k =>
      rw [h2, show (k + 1) * 3 + 2 = (k * 3 + 2) + 1 + 1 + 1 by omega, List.set_cons_succ, List.set_cons_succ, List.set_cons_succ, ih k (by simpa using h)]
      rfl
theorem tab_cells {g c : Nat} (h : Tab w base n (.slice (some ⟨g, 0, none⟩) L.length c) L) (k : Nat) (p : Lz) (hp : L[k]? = some p) : w.cell? ⟨g, k * 3, none⟩ = some (.int .i64 p.1) ∧ w.cell? ⟨g, k * 3 + 1, none⟩ = some (.int .i64 p.2.1) ∧ w.cell? ⟨g, k * 3 + 2, none⟩ = some (.int .i64 p.2.2) ∧ w.frozen? ⟨g, k * 3 + 2, none⟩ = false ∧ g < w.heap.size := by
  obtain ⟨g2, cap, he, hg, d0, d1, d2⟩ := own_cells h.row k p hp
  obtain ⟨rfl, rfl⟩ : g = g2 ∧ c = cap := by simpa using he
  rcases h.row.2 with ⟨h0, _⟩ | ⟨g', cap', cur, he, hb, hg', _⟩
  · cases h0
  obtain ⟨rfl, rfl⟩ : g = g' ∧ c = cap' := by simpa using he
  exact ⟨d0, d1, d2, frozen_of_row w g _ cur 37 hg', hg⟩
/-- Renew. -/
def renL (L : List Lz) (id now : Int) : List Lz := match getL L id with
  | some p => L.set (kOf L id) (p.1, p.2.1, max p.2.2 now)
  | none => L
def clockB (t : Int) : Bool := decide (0 ≤ t) && decide (t ≤ 1099511627776)
theorem renew_no (id now : Int) (h : Tab w base n v L) (hs : Rises L) (hl : L.length ≤ 1000) (hno : (clockB now && isIn L id) = false) :
    Calls Try.prog 16 #[.pointer (some ⟨n, 0, none⟩), .int .i64 id, .int .i64 now] w fun e w' => e = .returned (.int .i64 (if clockB now then 100 else 1)) ∧ Below w.heap.size w w' := by
  have C1 := Lib.hid (find_any id h hs hl)
  obtain ⟨q, hq⟩ : ∃ q, clockB now = q := ⟨_, rfl⟩
  have C2 := Lib.hid (fun w => clock_any now w)
  have hq' : (decide (0 ≤ now) && decide (now ≤ 1099511627776)) = q := hq
  rw [hq'] at C2
  rw [hq] at hno ⊢
  clear h hq hq'
  obtain ⟨r, hr⟩ : ∃ r, isIn L id = r := ⟨_, rfl⟩
  rw [hr] at C1 hno
  clear hr
  go_enter Try.func16, Try.ntmps16
  go_wp2_with fail
  refine C1.out.mono ?_
  rintro e w1 ⟨rfl, b1⟩
  clear C1
  go_wp2_with fail
  refine (C2.out w1).mono ?_
  rintro e w2 ⟨rfl, rfl⟩
  cases q
  · go_wp2
    go_ret
    exact ⟨rfl, b1⟩
  · obtain rfl : r = false := by simpa using hno
    go_wp2
    go_ret
    exact ⟨rfl, b1⟩
set_option maxHeartbeats 1000000 in
theorem renew_ok (id now : Int) (h : Tab w base n v L) (hb : base ≤ w.heap.size) (hs : Rises L) (hl : L.length ≤ 1000) (hc : clockB now = true) (hok : isIn L id = true) :
    Calls Try.prog 16 #[.pointer (some ⟨n, 0, none⟩), .int .i64 id, .int .i64 now] w fun e w' => e = .returned (.int .i64 0) ∧ ∃ v', Tab w' base n v' (renL L id now) ∧ Goes w w' n v v' := by
  have C1 := Lib.hid (find_any id h hs hl)
  have C2 := Lib.hid (fun w => clock_any now w)
  have hc' : (decide (0 ≤ now) && decide (now ≤ 1099511627776)) = true := hc
  rw [hc'] at C2
  obtain ⟨p, hp, hpid⟩ := isIn_get hs id hok
  clear hpid
  have HRE := Lib.hid (show renL L id now = L.set (kOf L id) (p.1, p.2.1, max p.2.2 now) by simp [renL, getL, hok, hp])
  rw [hok] at C1
  obtain ⟨k, hk⟩ : ∃ k, k = kOf L id := ⟨_, rfl⟩
  rw [← hk] at C1 hp HRE
  have hlt := (List.getElem?_eq_some_iff.1 hp).1
  have HPP := Lib.hid hp
  obtain ⟨ad, c, rfl, _⟩ := own_shape h.row
  obtain ⟨g, rfl⟩ : ∃ g, ad = some ⟨g, 0, none⟩ := by
    rcases h.row.2 with ⟨_, h1⟩ | ⟨g, cap, cur, h0, _⟩
    · omega
    · exact ⟨g, by injection h0⟩
  have HT := Lib.hid h
  clear h hok hk hp hc hc'
  go_enter Try.func16, Try.ntmps16
  go_wp2_with fail
  refine C1.out.mono ?_
  rintro e w1 ⟨rfl, b1⟩
  have HB1 := Lib.hid b1
  have HT1 := Lib.hid (HT.out.below b1 (Nat.le_refl _))
  clear C1 b1
  go_wp2_with fail
  refine (C2.out w1).mono ?_
  rintro e w2 ⟨rfl, rfl⟩
  obtain ⟨m, hm⟩ : ∃ m, m = max p.2.2 now := ⟨_, rfl⟩
  rw [← hm] at HRE
  have HM := Lib.hid hm
  clear hm
  go_wp2
  refine wp_region_phase (fun w' => Tab w' base n (.slice (some ⟨g, 0, none⟩) L.length c) L) [true, true, true, true, true, true, true, true, true, true, true, true, true, true, true, false, false, false] 17 _ _ _ (by kernel_rfl) rfl rfl (by kernel_rfl) rfl rfl (fun _ _ _ _ _ h => h) (HT1.out.drew) ?_
  intro S HS
  simp only [taken, leftOut]
  go_big_quiet_want; go_big_quiet_op; go_big_quiet_on
  go_big_quiet_want; apply quiet_value; (· (intro w' hw; have ht := (HS.out _).1 hw; have hn := ht.box.lt; go_simp; try rfl)); simp only [Act.put, List.setIfInBounds_toArray, List.set_cons_succ, List.set_cons_zero]; go_big_quiet_on
  go_big_quiet_want; apply quiet_value; (· (intro w' hw; go_simp; try rfl)); simp only [Act.put, List.setIfInBounds_toArray, List.set_cons_succ, List.set_cons_zero]; go_big_quiet_on
  go_big_quiet_want; apply quiet_value; (· (intro w' hw; have ht := (HS.out _).1 hw; have c0 : w'.cell? ⟨n, 0, none⟩ = some (.slice (some ⟨g, 0, none⟩) L.length c) := ht.box.cell 0; go_simp; try rfl)); simp only [Act.put, List.setIfInBounds_toArray, List.set_cons_succ, List.set_cons_zero]; go_big_quiet_on
  go_big_quiet_want; go_big_quiet_op; go_big_quiet_on
  go_big_quiet_want; go_big_quiet_op; go_big_quiet_on
  go_big_quiet_want; apply quiet_value; (· (intro w' hw; have ht := (HS.out _).1 hw; have hn := ht.box.lt; go_simp; try rfl)); simp only [Act.put, List.setIfInBounds_toArray, List.set_cons_succ, List.set_cons_zero]; go_big_quiet_on
  go_big_quiet_want; apply quiet_value; (· (intro w' hw; go_simp; try rfl)); simp only [Act.put, List.setIfInBounds_toArray, List.set_cons_succ, List.set_cons_zero]; go_big_quiet_on
  go_big_quiet_want; apply quiet_value; (· (intro w' hw; have ht := (HS.out _).1 hw; have c0 : w'.cell? ⟨n, 0, none⟩ = some (.slice (some ⟨g, 0, none⟩) L.length c) := ht.box.cell 0; go_simp; try rfl)); simp only [Act.put, List.setIfInBounds_toArray, List.set_cons_succ, List.set_cons_zero]; go_big_quiet_on
  go_big_quiet_want; go_big_quiet_op; go_big_quiet_on
  go_big_quiet_want; apply quiet_value; (· (intro w' hw; go_simp; try rfl)); simp only [Act.put, List.setIfInBounds_toArray, List.set_cons_succ, List.set_cons_zero]; go_big_quiet_on
  go_big_quiet_want; apply quiet_value; (· (intro w' hw; go_simp; try rfl)); simp only [Act.put, List.setIfInBounds_toArray, List.set_cons_succ, List.set_cons_zero]; go_big_quiet_on
  go_big_quiet_want; apply quiet_value; (· (intro w' hw; have ht := (HS.out _).1 hw; have hd := tab_cells ht k p HPP.out; have d2 := hd.2.2.1; go_simp; try rfl)); simp only [Act.put, List.setIfInBounds_toArray, List.set_cons_succ, List.set_cons_zero]; go_big_quiet_on
  go_big_quiet_want; go_big_quiet_op; go_big_quiet_on
  go_big_quiet_want; apply quiet_value (v := .int .i64 m); (· (intro w' hw; go_simp; rw [HM.out]; split <;> omega)); simp only [Act.put, List.setIfInBounds_toArray, List.set_cons_succ, List.set_cons_zero]; go_big_quiet_on
  refine wpQuiet_nil ?_
  refine wpTail_more ?_
  go_wp2_with fail
  refine ThenS.mk ((HS.out _).2 HT1.out.drew) ?_
  refine wpTail_more ?_
  go_wp2_with fail
  refine ThenS.mk ((HS.out _).2 HT1.out.drew) ?_
  refine wpTail_last ?_
  obtain ⟨d0, d1, d2, fz, hgl⟩ := tab_cells HT1.out k p HPP.out
  go_wp2
  go_ret
  have hvn := HT1.out.vn
  refine ⟨rfl, .slice (some ⟨g, 0, none⟩) L.length c, ⟨(HT1.out.box.set_other (p := ⟨g, k * 3 + 2, none⟩) (fun e => hvn (congrArg some e.symm)) _).drew, ?_, HT.out.hn⟩, ⟨((Touch.of_below HB1.out).setCell (.inr rfl) _).drew, fun k hk => .inl hk⟩⟩
  rw [HRE.out, List.length_set, ← cells_set L k p HPP.out]
  exact own_stays (own_set HT1.out.row (k * 3 + 2) (by omega) (.int .i64 m)) (fun _ _ => rfl)
theorem renew_all (id now : Int) (h : Tab w base n v L) (hb : base ≤ w.heap.size) (hs : Rises L) (hl : L.length ≤ 1000) :
    Calls Try.prog 16 #[.pointer (some ⟨n, 0, none⟩), .int .i64 id, .int .i64 now] w fun e w' => e = .returned (.int .i64 (if clockB now then (if isIn L id then 0 else 100) else 1)) ∧ ∃ v', Tab w' base n v' (if clockB now && isIn L id then renL L id now else L) ∧ Goes w w' n v v' := by
  cases ho : (clockB now && isIn L id) with
  | false =>
    refine (renew_no id now h hs hl ho).mono fun _ _ ⟨he, hb'⟩ => ⟨?_, v, h.below hb' (Nat.le_refl _), Goes.of_below hb'⟩
    rw [he]
    cases hc : clockB now with
    | false => rfl
    | true => rw [hc] at ho; have : isIn L id = false := by simpa using ho
              rw [this]; rfl
  | true =>
    simp only [Bool.and_eq_true] at ho
    refine (renew_ok id now h hb hs hl ho.1 ho.2).mono fun _ _ ⟨he, hx⟩ => ⟨?_, hx⟩
    rw [he, ho.1, ho.2]; rfl
end Go.Proofs.Ytkgnooogppkieaa
