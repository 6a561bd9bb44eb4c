/- watcher: Add. Conditions: the table lies in the call's own memory, it rises; the library's variable is there; the path is not longer than 4 MiB. -/
import Derived.Test.YtmcjpochpmiipaaDoorVd
import Derived.Test.YtmcjpochpmiipaaDoorZc
namespace Go.Proofs.YtmcjpochpmiipaaDoor
open Go Go.RowKit Zn
set_option linter.unusedVariables false
set_option linter.unusedSimpArgs false
variable {w w' : World} {base n : Nat} {v : Value} {L : List Wt}

theorem kOf_at (L : List Wt) (x : Wt) (hs : Rises L) (h : isIn L x = true) : L[kOf L x]? = some x := by
  obtain ⟨j, hj, hjx⟩ := List.getElem_of_mem ((isIn_iff L x).1 h)
  have e : kOf L x = j := by
    refine kOf_is L x j (by omega) (fun i p hi hp => ?_) (fun i p hi hp hl => ?_)
    · obtain ⟨hil, hip⟩ := List.getElem?_eq_some_iff.1 hp
      have := List.pairwise_iff_getElem.1 hs i j hil hj hi
      rw [hjx, hip] at this
      exact this
    · obtain ⟨hil, hip⟩ := List.getElem?_eq_some_iff.1 hp
      rcases Nat.lt_or_ge j i with h1 | h1
      · have := List.pairwise_iff_getElem.1 hs j i hj hil h1
        rw [hjx, hip] at this
        exact this.asymm hl
      · obtain rfl : i = j := by omega
        rw [← hip, hjx] at hl
        exact Lt.irrefl x hl
  rw [e, List.getElem?_eq_getElem hj, hjx]
/-- may a watch be added at all? -/
def okW (x : Wt) : Bool := decide (1 ≤ x.1) && validZ x.2.1.data.toList
def insL (L : List Wt) (x : Wt) : List Wt := L.take (kOf L x) ++ x :: L.drop (kOf L x)
def addB (L : List Wt) (x : Wt) : Bool := okW x && (isIn L x || decide (L.length < 500))
def addL (L : List Wt) (x : Wt) : List Wt := if okW x && !isIn L x && decide (L.length < 500) then insL L x else L
theorem addL_in {L : List Wt} {x : Wt} (h : isIn L x = true) : addL L x = L := by simp [addL, h]
theorem addL_bad {L : List Wt} {x : Wt} (h : okW x = false) : addL L x = L := by simp [addL, h]
theorem addL_full {L : List Wt} {x : Wt} (h : ¬ L.length < 500) : addL L x = L := by simp [addL, h]
/-- what Add leaves. -/
def Added (w : World) (base n : Nat) (v : Value) (L : List Wt) (x : Wt) (e : Ending) (w' : World) : Prop := e = .returned (.bool (addB L x)) ∧ ∃ v', Tab w' base n v' (addL L x) ∧ Goes w w' n v v'
set_option maxRecDepth 4000 in
set_option maxHeartbeats 2000000 in
theorem add_any (x : Wt) (h : Tab w base n v L) (hb : base ≤ w.heap.size) (hs : Rises L) (hl : L.length ≤ 1000) (hm : Mx w) (hz : x.2.1.size ≤ 4194304) :
    Calls Tryd.prog 12 #[.pointer (some ⟨n, 0, none⟩), tv x] w (Added w base n v L x) := by
  obtain ⟨ad, c, rfl, _⟩ := own_shape h.row
  have HX := Lib.hid (Box.new w 31 #[.int .i64 x.1, .string x.2.1, .bool x.2.2])
  have B0 := Lib.hid ((Below.refl w.heap.size w).alloc (Nat.le_refl _) (.cells #[.int .i64 x.1, .string x.2.1, .bool x.2.2] 31))
  have HT0 := Lib.hid (h.alloc (.cells #[.int .i64 x.1, .string x.2.1, .bool x.2.2] 31))
  have HM0 := Lib.hid (hm.below ((Below.refl w.heap.size w).alloc (Nat.le_refl _) (.cells #[.int .i64 x.1, .string x.2.1, .bool x.2.2] 31)))
  have HT := Lib.hid h
  have HS := Lib.hid hs
  obtain ⟨k, hk⟩ : ∃ k, k = kOf L x := ⟨_, rfl⟩
  obtain ⟨q, hq⟩ : ∃ q, q = isIn L x := ⟨_, rfl⟩
  have HKE := Lib.hid hk
  have HQ := Lib.hid hq
  have HEX := Lib.hid (show q = true → L[k]? = some x by rw [hk, hq]; exact kOf_at L x hs)
  have HKL := Lib.hid (show k ≤ L.length by rw [hk]; exact kOf_le L x)
  have HINS := Lib.hid (show insL L x = L.take k ++ x :: L.drop k by rw [insL, ← hk])
  clear hk hq
  have HFIN := Lib.hid (show  Added w base n (.slice ad L.length c) L x = fun e w' => e = .returned (.bool (addB L x)) ∧ ∃ v', Tab w' base n v' (addL L x) ∧ Goes w w' n (.slice ad L.length c) v' from rfl)
  unfold tv
  clear h hs hm
  go_enter Tryd.func12, Tryd.ntmps12
  go_wp2_with fail
  obtain ⟨nx, hnx⟩ : ∃ nx, nx = w.heap.size := ⟨_, rfl⟩
  have HNX := Lib.hid hnx
  rw [← hnx] at HX ⊢
  clear hnx
  generalize w.alloc (.cells #[.int .i64 x.1, .string x.2.1, .bool x.2.2] 31) = w0 at HX B0 HT0 HM0 ⊢
  refine wp_region_below (w0 := w0) (B := w0.heap.size) (by kernel_rfl) (by kernel_rfl) (Below.refl _ _) ?_
  go_big_quiet_want; go_big_quiet_op; go_big_quiet_on
  go_big_quiet_want; apply quiet_value; (· (intro w hw; have ht := HT0.out.below hw (Nat.le_refl _); have c0 : w.cell? ⟨n, 0, none⟩ = some (.slice ad L.length c) := ht.box.cell 0; have hn := ht.box.lt; go_simp; try rfl)); simp only [Act.put, List.setIfInBounds_toArray, List.set_cons_succ, List.set_cons_zero]; go_big_quiet_on
  go_big_quiet_want; apply quiet_value; (· (intro w hw; go_simp; try rfl)); simp only [Act.put, List.setIfInBounds_toArray, List.set_cons_succ, List.set_cons_zero]; go_big_quiet_on
  go_big_quiet_want; apply quiet_value; (· (intro w hw; have ht := HT0.out.below hw (Nat.le_refl _); have c0 : w.cell? ⟨n, 0, none⟩ = some (.slice ad L.length c) := ht.box.cell 0; have hn := ht.box.lt; go_simp; try rfl)); simp only [Act.put, List.setIfInBounds_toArray, List.set_cons_succ, List.set_cons_zero]; go_big_quiet_on
  go_big_quiet_want; apply quiet_value; (· (intro w hw; have hx := HX.out.below hw HX.out.lt; have x0 : w.cell? ⟨nx, 0, none⟩ = some (.int .i64 x.1) := hx.cell 0; have x1 : w.cell? ⟨nx, 1, none⟩ = some (.string x.2.1) := hx.cell 1; have x2 : w.cell? ⟨nx, 2, none⟩ = some (.bool x.2.2) := hx.cell 2; go_simp; try rfl)); simp only [Act.put, List.setIfInBounds_toArray, List.set_cons_succ, List.set_cons_zero]; go_big_quiet_on
  go_big_quiet_want; apply quiet_call (f := 23) (v := .tuple #[.int .i64 (k : Nat), .bool q]); (· (intro w hw; go_simp; try rfl)); (· (intro w hw; rw [HKE.out, HQ.out]; exact in_below (search_any ad c x (own_below HT0.out.row hw (Nat.le_refl _)) HS.out hl) hw (Nat.le_refl _))); simp only [Act.put, List.setIfInBounds_toArray, List.set_cons_succ, List.set_cons_zero]; go_big_quiet_on
  go_big_quiet_want; go_big_quiet_op; go_big_quiet_on
  go_big_quiet_want; apply quiet_value; (· (intro w hw; go_simp; try rfl)); simp only [Act.put, List.setIfInBounds_toArray, List.set_cons_succ, List.set_cons_zero]; go_big_quiet_on
  go_big_quiet_want; apply quiet_value; (· (intro w hw; go_simp; try rfl)); simp only [Act.put, List.setIfInBounds_toArray, List.set_cons_succ, List.set_cons_zero]; go_big_quiet_on
  go_big_quiet_want; go_big_quiet_op; go_big_quiet_on
  go_big_quiet_want; go_big_quiet_op; go_big_quiet_on
  refine wpQuiet_nil ?_
  intro w1 b1
  have HX1 := Lib.hid (HX.out.below b1 HX.out.lt)
  have B1 := Lib.hid (B0.out.trans (b1.mono B0.out.size))
  have HT1 := Lib.hid (HT0.out.below b1 (Nat.le_refl _))
  have HM1 := Lib.hid (HM0.out.below b1)
  have p0 : w1.cell? ⟨nx, 0, none⟩ = some (.int .i64 x.1) := HX1.out.cell 0
  have p1 : w1.cell? ⟨nx, 1, none⟩ = some (.string x.2.1) := HX1.out.cell 1
  clear b1
  by_cases h1 : x.1 < 1
  · have HNO := Lib.hid (show okW x = false by simp [okW]; intro h; omega)
    go_wp2
    go_ret
    rw [HFIN.out]
    exact ⟨by simp [addB, HNO.out], _, by rw [addL_bad HNO.out]; exact HT.out.below B1.out (Nat.le_refl _), Goes.of_below B1.out⟩
  · have hd : decide (x.1 < 1) = false := decide_eq_false h1
    obtain ⟨V, hV⟩ : ∃ V, V = validZ x.2.1.data.toList := ⟨_, rfl⟩
    have C1 := Lib.hid (valid_any x.2.1 w1 hz HM1.out)
    have HOK := Lib.hid (show okW x = V by simp [okW, hV]; intro _; omega)
    rw [← hV] at C1
    clear hV
    go_wp2_with fail
    refine C1.out.mono ?_
    rintro e w2 ⟨rfl, b2⟩
    have HX2 := Lib.hid (HX1.out.below b2 HX1.out.lt)
    have B2 := Lib.hid (B1.out.trans (b2.mono B1.out.size))
    have HT2 := Lib.hid (HT1.out.below b2 (Nat.le_refl _))
    have HN2 := Lib.hid HT2.out.box.lt
    have c0 : w2.cell? ⟨n, 0, none⟩ = some (.slice ad L.length c) := HT2.out.box.cell 0
    clear C1 b2 p0 p1
    cases V
    · go_wp2
      go_ret
      rw [HFIN.out]
      exact ⟨by simp [addB, HOK.out], _, by rw [addL_bad HOK.out]; exact HT.out.below B2.out (Nat.le_refl _), Goes.of_below B2.out⟩
    cases q
    rotate_left
    · have HAT := Lib.hid (HEX.out rfl)
      obtain ⟨hkl, _⟩ := List.getElem?_eq_some_iff.1 HAT.out
      obtain ⟨g, cap, he, hg, _⟩ := own_cells HT2.out.row k x HAT.out
      obtain ⟨rfl, rfl⟩ : ad = some ⟨g, 0, none⟩ ∧ c = cap := by simpa using he
      clear he hg
      go_wp2
      refine wp_region_below (w0 := w2) (B := w2.heap.size) (by kernel_rfl) (by kernel_rfl) (Below.refl _ _) ?_
      go_big_quiet_want; go_big_quiet_op; go_big_quiet_on
      go_big_quiet_want; apply quiet_value; (· (intro w hw; have ht := HT2.out.below hw (Nat.le_refl _); have c0 : w.cell? ⟨n, 0, none⟩ = some (.slice (some ⟨g, 0, none⟩) L.length c) := ht.box.cell 0; have hn := ht.box.lt; go_simp; try rfl)); simp only [Act.put, List.setIfInBounds_toArray, List.set_cons_succ, List.set_cons_zero]; go_big_quiet_on
      go_big_quiet_want; apply quiet_value; (· (intro w hw; go_simp; try rfl)); simp only [Act.put, List.setIfInBounds_toArray, List.set_cons_succ, List.set_cons_zero]; go_big_quiet_on
      go_big_quiet_want; apply quiet_value; (· (intro w hw; have ht := HT2.out.below hw (Nat.le_refl _); have c0 : w.cell? ⟨n, 0, none⟩ = some (.slice (some ⟨g, 0, none⟩) L.length c) := ht.box.cell 0; have hn := ht.box.lt; go_simp; try rfl)); simp only [Act.put, List.setIfInBounds_toArray, List.set_cons_succ, List.set_cons_zero]; go_big_quiet_on
      go_big_quiet_want; go_big_quiet_op; go_big_quiet_on
      go_big_quiet_want; apply quiet_value; (· (intro w hw; go_simp; try rfl)); simp only [Act.put, List.setIfInBounds_toArray, List.set_cons_succ, List.set_cons_zero]; go_big_quiet_on
      go_big_quiet_want; apply quiet_value; (· (intro w hw; obtain ⟨d0, d1, d2⟩ := own_at (own_below HT2.out.row hw (Nat.le_refl _)) k x HAT.out; go_simp; try rfl)); simp only [Act.put, List.setIfInBounds_toArray, List.set_cons_succ, List.set_cons_zero]; go_big_quiet_on
      go_big_quiet_want; apply quiet_value; (· (intro w hw; have hx := HX2.out.below hw HX2.out.lt; have x0 : w.cell? ⟨nx, 0, none⟩ = some (.int .i64 x.1) := hx.cell 0; have x1 : w.cell? ⟨nx, 1, none⟩ = some (.string x.2.1) := hx.cell 1; have x2 : w.cell? ⟨nx, 2, none⟩ = some (.bool x.2.2) := hx.cell 2; go_simp; try rfl)); simp only [Act.put, List.setIfInBounds_toArray, List.set_cons_succ, List.set_cons_zero]; go_big_quiet_on
      go_big_quiet_want; apply quiet_value (v := .bool true); (· (intro w hw; go_simp; try rfl)); simp only [Act.put, List.setIfInBounds_toArray, List.set_cons_succ, List.set_cons_zero]; go_big_quiet_on
      go_big_quiet_want; go_big_quiet_op; go_big_quiet_on
      refine wpQuiet_nil ?_
      intro w3 b3
      have B3 := Lib.hid (B2.out.trans (b3.mono B2.out.size))
      clear b3
      go_wp2
      go_ret
      rw [HFIN.out]
      exact ⟨by simp [addB, HOK.out, ← HQ.out], _, by rw [addL_in HQ.out.symm]; exact HT.out.below B3.out (Nat.le_refl _), Goes.of_below B3.out⟩
    by_cases hf : L.length < 500
    rotate_left
    · have h5 : (500 : Int) ≤ (L.length : Int) := by omega
      go_wp2
      go_ret
      rw [HFIN.out]
      exact ⟨by simp [addB, HOK.out, ← HQ.out]; omega, _, by rw [addL_full hf]; exact HT.out.below B2.out (Nat.le_refl _), Goes.of_below B2.out⟩
    have h5 : ¬ (500 : Int) ≤ (L.length : Int) := by omega
    have HADD := Lib.hid (show addL L x = insL L x by simp [addL, HOK.out, ← HQ.out, hf])
    have HADB := Lib.hid (show addB L x = true by simp [addB, HOK.out, hf])
    go_wp2
    refine wp_region_phase (fun w' => Box w' n 53 #[.slice ad L.length c] ∧ Box w' nx 31 #[.int .i64 x.1, .string x.2.1, .bool x.2.2]) [true, true, true, true, true, true, true, false, false, false, false, false] 11 _ _ _ (by kernel_rfl) rfl rfl (by kernel_rfl) rfl rfl (fun _ _ _ _ _ h => h) (⟨HT2.out.box.drew, HX2.out.drew⟩) ?_
    intro S HS
    simp only [taken, leftOut]
    go_big_quiet_want; go_big_quiet_op; go_big_quiet_on
    go_big_quiet_want; go_big_quiet_op; go_big_quiet_on
    go_big_quiet_want; apply quiet_value; (· (intro w' hw; have c0 : w'.cell? ⟨n, 0, none⟩ = some (.slice ad L.length c) := ((HS.out _).1 hw).1.cell 0; have hn := ((HS.out _).1 hw).1.lt; go_simp; try rfl)); simp only [Act.put, List.setIfInBounds_toArray, List.set_cons_succ, List.set_cons_zero]; go_big_quiet_on
    go_big_quiet_want; apply quiet_value; (· (intro w' hw; go_simp; try rfl)); simp only [Act.put, List.setIfInBounds_toArray, List.set_cons_succ, List.set_cons_zero]; go_big_quiet_on
    go_big_quiet_want; apply quiet_value; (· (intro w' hw; have c0 : w'.cell? ⟨n, 0, none⟩ = some (.slice ad L.length c) := ((HS.out _).1 hw).1.cell 0; go_simp; try rfl)); simp only [Act.put, List.setIfInBounds_toArray, List.set_cons_succ, List.set_cons_zero]; go_big_quiet_on
    go_big_quiet_want; go_big_quiet_op; go_big_quiet_on
    go_big_quiet_want; apply quiet_value; (· (intro w' hw; have hx := ((HS.out _).1 hw).2; have x0 : w'.cell? ⟨nx, 0, none⟩ = some (.int .i64 x.1) := hx.cell 0; have x1 : w'.cell? ⟨nx, 1, none⟩ = some (.string x.2.1) := hx.cell 1; have x2 : w'.cell? ⟨nx, 2, none⟩ = some (.bool x.2.2) := hx.cell 2; go_simp; try rfl)); simp only [Act.put, List.setIfInBounds_toArray, List.set_cons_succ, List.set_cons_zero]; go_big_quiet_on
    refine wpQuiet_nil ?_
    refine wpTail_more ?_
    go_wp2_with fail
    have HX3 := Lib.hid (HX2.out.drew.alloc (.cells #[.int .i64 x.1, .string x.2.1, .bool x.2.2] 31))
    have HT3 := Lib.hid (HT2.out.drew.alloc (.cells #[.int .i64 x.1, .string x.2.1, .bool x.2.2] 31))
    have HA3 := Lib.hid (Box.new w2.drew 31 #[.int .i64 x.1, .string x.2.1, .bool x.2.2])
    have B3 := Lib.hid (B2.out.drew.alloc B2.out.drew.size (.cells #[.int .i64 x.1, .string x.2.1, .bool x.2.2] 31))
    refine ThenS.mk ((HS.out _).2 ⟨HT3.out.box, HX3.out⟩) ?_
    refine wpTail_more ?_
    have hge := HT2.out.of_lt
    have CI := Lib.hid (insert_any x k ad c HT3.out.row HKL.out (by omega) w2.heap.size HA3.out (fun e => by have := hge w2.heap.size (.inr e); omega) (Nat.le_trans hb B3.out.size))
    go_wp2_with fail
    refine CI.out.mono ?_
    rintro e w4 ⟨v4, rfl, own4, g4, l4⟩
    have own4' : w4.ownsRow base 31 3 v4 (insL L x).length (cellsOf (insL L x)) := by
      rw [HINS.out]
      have hkl := HKL.out
      have : (L.take k ++ x :: L.drop k).length = L.length + 1 := by rw [List.length_append, List.length_take, List.length_cons, List.length_drop]; omega
      rw [this]
      exact own4
    obtain ⟨ad4, c4, rfl, _⟩ := own_shape own4'
    have hvn := HT3.out.vn
    have HN4 := Lib.hid (HT3.out.box.grown g4 (fun e => hvn e.symm))
    have hxb : some nx ≠ (Value.slice ad L.length c).ownBlock := fun e => by
      have h1 := HT.out.of_lt nx (.inr e.symm)
      have h2 := HNX.out
      omega
    have HX4 := Lib.hid (HX3.out.grown g4 hxb)
    have HO4 := Lib.hid own4'
    have HG4 := Lib.hid g4
    have HL4 := Lib.hid l4
    have HNL := Lib.hid HT.out.box.lt
    clear own4 own4' g4 l4 CI hge
    go_wp2_with fail
    refine ThenS.mk ((HS.out _).2 ⟨HN4.out, HX4.out⟩) ?_
    have c4' : w4.cell? ⟨n, 0, none⟩ = some (.slice ad L.length c) := HN4.out.cell 0
    have f4 := HN4.out.frozen 0
    have hn4 := HN4.out.lt
    refine wpTail_more ?_
    go_wp2_with fail
    refine ThenS.mk ((HS.out _).2 ⟨HN4.out, HX4.out⟩) ?_
    refine wpTail_more ?_
    go_wp2_with fail
    refine ThenS.mk ((HS.out _).2 ⟨HN4.out, HX4.out⟩) ?_
    refine wpTail_last ?_
    go_wp2
    go_ret
    have hne := own_box_ne HO4.out HN4.out (by decide)
    rw [HFIN.out]
    refine ⟨by rw [HADB.out]; rfl, .slice ad4 (insL L x).length c4, ?_, ⟨((Touch.of_below B3.out).grown HG4.out (fun k hk => .inl (.inr hk))).setCell (.inl rfl) _, fun k hk => ?_⟩⟩
    · rw [HADD.out]
      exact ⟨HN4.out.set 0 _, own_stays HO4.out (fun k hk => Below.heap_setCell _ _ _ _ (fun e => hne (hk.trans (congrArg some e)))), HT.out.hn⟩
    rcases HL4.out with h | h
    · exact .inl (h ▸ hk)
    · rw [h] at hk
      refine .inr ?_
      have h1 := B2.out.size
      have : k = (w2.drew.alloc (.cells #[.int .i64 x.1, .string x.2.1, .bool x.2.2] 31)).heap.size := (Option.some.inj hk).symm
      have h2 : (w2.drew.alloc (.cells #[.int .i64 x.1, .string x.2.1, .bool x.2.2] 31)).heap.size = w2.heap.size + 1 := by simp
      omega
theorem len_any (h : Tab w base n v L) (hl : L.length ≤ 1000) : Calls Tryd.prog 13 #[.pointer (some ⟨n, 0, none⟩)] w fun e w' => e = .returned (.int .i64 (L.length : Int)) ∧ w = w' := by
  obtain ⟨ad, c, rfl, _⟩ := own_shape h.row
  have c0 : w.cell? ⟨n, 0, none⟩ = some (.slice ad L.length c) := h.box.cell 0
  have hn := h.box.lt
  clear h
  go_enter Tryd.func13, Tryd.ntmps13
  go_wp2
  go_ret
  exact ⟨rfl, rfl⟩
theorem new_any (w : World) : Calls Tryd.prog 9 #[] w fun e w' => e = .returned (.pointer (some ⟨w.heap.size, 0, none⟩)) ∧ Tab w' w.heap.size w.heap.size (.slice none 0 0) [] ∧ Below w.heap.size w w' := by
  go_enter Tryd.func9, Tryd.ntmps9
  go_wp2
  go_ret
  exact ⟨rfl, ⟨Box.new w 53 #[.slice none 0 0], World.ownsRow_nil _ _ _ _, Nat.le_refl _⟩, (Below.refl _ _).alloc (Nat.le_refl _) _⟩
theorem own_src {e size n c : Nat} {ad : Option Addr} {xs : List Value} (h : w.ownsRow base e size (.slice ad n c) n xs) (h1 : ∀ u ∈ xs, u.oneCell' = true) : Src w ad n size xs := by
  refine ⟨h.1, h1, ?_⟩
  have hC := fun (g : Nat) (hg : (Value.slice ad n c).ownBlock = some g) => h.cells hg
  rcases h.2 with ⟨_, h0⟩ | ⟨g, cap, cur, he, _⟩
  · exact .inl h0
  · obtain ⟨rfl, rfl⟩ : ad = some ⟨g, 0, none⟩ ∧ c = cap := by simpa using he
    exact .inr ⟨_, rfl, hC g rfl⟩
theorem nil_eq (w : World) : (binOp .eql 46 (.slice none 0 0) (.slice none 0 0)).run Tryd.prog w = .ok (.bool true) w := by kernel_rfl
theorem some_ne (a : Addr) (n c : Nat) (w : World) : (binOp .eql 46 (.slice (some a) n c) (.slice none 0 0)).run Tryd.prog w = .ok (.bool false) w := by kernel_rfl
set_option maxHeartbeats 1000000 in
theorem clone_row (ad : Option Addr) (c : Nat) (h : w.ownsRow base 31 3 (.slice ad L.length c) L.length (cellsOf L)) (hl : L.length ≤ 1000) :
    Calls Tryd.prog 33 #[.slice ad L.length c] w fun e w' => ∃ v', e = .returned v' ∧ w'.ownsRow w.heap.size 31 3 v' L.length (cellsOf L) ∧ Below w.heap.size w w' := by
  cases ad with
  | none =>
    have h0 : L.length = 0 ∧ c = 0 := by
      rcases h.2 with ⟨h0, h1⟩ | ⟨g, cap, cur, h0, _⟩
      · exact ⟨h1, by injection h0⟩
      · cases h0
    obtain rfl : L = [] := List.length_eq_zero_iff.1 h0.1
    rw [h0.2]
    have s1 := nil_eq
    clear h h0
    go_enter Tryd.func33, Tryd.ntmps33
    go_wp2
    go_ret
    exact ⟨_, rfl, World.ownsRow_nil _ _ _ _, Below.refl _ _⟩
  | some ad =>
    have HO1 := Lib.hid (World.ownsRow_lit (base := w.heap.size) (e := 31) (size := 3) w #[] 0 (Nat.le_refl _) (by decide) rfl)
    have HS1 := Lib.hid (own_src (own_stays h (w' := w.alloc (.cells #[] 31)) (fun k hk => Below.heap_alloc w _ k (own_lt h k hk))) (cells_one L))
    obtain ⟨i0, hi, hz0, hz1, hz2⟩ := info_parts row31
    have HI := Lib.hid hi
    have HZZ := Lib.hid hz0
    have HSZ := Lib.hid (show w.heap.size ≤ (w.alloc (.cells #[] 31)).heap.size by simp)
    have BB := Lib.hid ((Below.refl w.heap.size w).alloc (Nat.le_refl _) (.cells #[] 31))
    have s1 := some_ne
    clear h hi hz0
    go_enter Tryd.func33, Tryd.ntmps33
    go_wp2_with (at_builtin; refine wpList_append_at rfl (.tmp 5) (.tmp 6) 46 rfl w.heap.size 31 i0 _ 3 32 Tryd.underlying46 HI.out HZZ.out hz1 hz2 rfl (by decide) _ _ _ rfl HO1.out _ _ _ _ rfl HS1.out (by unfold maxLen; omega) (by omega) HSZ.out ?_; intro v2 w2 own2 g2 at2)
    go_ret
    exact ⟨_, rfl, by simpa using own2, BB.out.grown g2 HSZ.out (own_ge HO1.out)⟩
theorem all_any (h : Tab w base n v L) (hl : L.length ≤ 1000) :
    Calls Tryd.prog 18 #[.pointer (some ⟨n, 0, none⟩)] w fun e w' => ∃ v', e = .returned v' ∧ w'.ownsRow w.heap.size 31 3 v' L.length (cellsOf L) ∧ Below w.heap.size w w' := by
  obtain ⟨ad, c, rfl, _⟩ := own_shape h.row
  have c0 : w.cell? ⟨n, 0, none⟩ = some (.slice ad L.length c) := h.box.cell 0
  have hn := h.box.lt
  have C1 := Lib.hid (clone_row ad c h.row hl)
  clear h
  go_enter Tryd.func18, Tryd.ntmps18
  go_wp2_with fail
  refine C1.out.mono ?_
  rintro e w1 ⟨v1, rfl, own1, b1⟩
  obtain ⟨ad1, c1, rfl, _⟩ := own_shape own1
  go_wp2
  go_ret
  exact ⟨_, rfl, own1, b1⟩
theorem clone_any (h : Tab w base n v L) (hl : L.length ≤ 1000) :
    Calls Tryd.prog 20 #[.pointer (some ⟨n, 0, none⟩)] w fun e w' => ∃ m v', e = .returned (.pointer (some ⟨m, 0, none⟩)) ∧ Tab w' w.heap.size m v' L ∧ Below w.heap.size w w' := by
  obtain ⟨ad, c, rfl, _⟩ := own_shape h.row
  have c0 : w.cell? ⟨n, 0, none⟩ = some (.slice ad L.length c) := h.box.cell 0
  have hn := h.box.lt
  have C1 := Lib.hid (clone_row ad c h.row hl)
  clear h
  go_enter Tryd.func20, Tryd.ntmps20
  go_wp2_with fail
  refine C1.out.mono ?_
  rintro e w1 ⟨v1, rfl, own1, b1⟩
  obtain ⟨ad1, c1, rfl, _⟩ := own_shape own1
  have HO := Lib.hid own1
  have HB := Lib.hid b1
  clear own1 b1 C1
  go_wp2
  go_ret
  exact ⟨_, _, rfl, ⟨Box.new w1 53 #[_], own_stays HO.out (fun k hk => Below.heap_alloc w1 _ k (own_lt HO.out k hk)), HB.out.size⟩, HB.out.alloc HB.out.size _⟩
end Go.Proofs.YtmcjpochpmiipaaDoor
