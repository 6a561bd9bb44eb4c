/- lease: Open. Conditions: the table lies in the call's own memory, its ids rise. -/
import Derived.Test.YtkgnooogppkieaaLc
namespace Go.Proofs.Ytkgnooogppkieaa
open Go.RowKit
set_option linter.unusedVariables false
set_option linter.unusedSimpArgs false
variable {w w' : World} {base n : Nat} {v : Value} {L : List Lz}

def openOk (L : List Lz) (x : Lz) : Bool := rightB x && !isIn L x.1 && decide (L.length < 100)
def insL (L : List Lz) (x : Lz) : List Lz := L.take (kOf L x.1) ++ x :: L.drop (kOf L x.1)
theorem open_no (x : Lz) (h : Tab w base n v L) (hs : Rises L) (hl : L.length ≤ 1000) (hno : openOk L x = false) :
    Calls Try.prog 11 #[.pointer (some ⟨n, 0, none⟩), .int .i64 x.1, .int .i64 x.2.1, .int .i64 x.2.2] w fun e w' => e = .returned (.int .i64 1) ∧ Below w.heap.size w w' := by
  obtain ⟨ad, c, rfl, _⟩ := own_shape h.row
  have HX := Lib.hid (Box.new w 37 #[.int .i64 x.1, .int .i64 x.2.1, .int .i64 x.2.2])
  have B0 := Lib.hid ((Below.refl w.heap.size w).alloc (Nat.le_refl _) (.cells #[.int .i64 x.1, .int .i64 x.2.1, .int .i64 x.2.2] 37))
  have HT0 := Lib.hid (h.alloc (.cells #[.int .i64 x.1, .int .i64 x.2.1, .int .i64 x.2.2] 37))
  clear h
  go_enter Try.func11, Try.ntmps11
  go_wp2_with fail
  generalize w.alloc (.cells #[.int .i64 x.1, .int .i64 x.2.1, .int .i64 x.2.2] 37) = w0 at HX B0 HT0 ⊢
  refine (find_any x.1 HT0.out hs hl).mono ?_
  rintro e w1 ⟨rfl, b1⟩
  have HX1 := Lib.hid (HX.out.below b1 HX.out.lt)
  have B1 := Lib.hid (B0.out.trans (b1.mono B0.out.size))
  have HT1 := Lib.hid (HT0.out.below b1 (Nat.le_refl _))
  have p0 : w1.cell? ⟨w.heap.size, 0, none⟩ = some (.int .i64 x.1) := HX1.out.cell 0
  have p1 : w1.cell? ⟨w.heap.size, 1, none⟩ = some (.int .i64 x.2.1) := HX1.out.cell 1
  have p2 : w1.cell? ⟨w.heap.size, 2, none⟩ = some (.int .i64 x.2.2) := HX1.out.cell 2
  clear b1
  obtain ⟨r, hr⟩ : ∃ r, rightB x = r := ⟨_, rfl⟩
  obtain ⟨q, hq⟩ : ∃ q, isIn L x.1 = q := ⟨_, rfl⟩
  have C1 := Lib.hid (right_any x w1)
  unfold tv at C1
  unfold openOk at hno
  rw [hr] at C1
  rw [hr, hq] at hno
  rw [hq]
  clear hr hq
  go_wp2_with fail
  refine C1.out.mono ?_
  rintro e w2 ⟨rfl, b2⟩
  have B2 := Lib.hid (B1.out.trans (b2.mono B1.out.size))
  have c0 : w2.cell? ⟨n, 0, none⟩ = some (.slice ad L.length c) := (HT1.out.below b2 (Nat.le_refl _)).box.cell 0
  clear b2 C1 p0 p1 p2
  cases r
  · clear hno
    go_wp2
    go_ret
    exact ⟨rfl, B2.out⟩
  · cases q
    · have hge : (100 : Int) ≤ (L.length : Int) := by simp at hno; omega
      clear hno
      go_wp2
      go_ret
      exact ⟨rfl, B2.out⟩
    · clear hno
      go_wp2
      go_ret
      exact ⟨rfl, B2.out⟩

set_option maxHeartbeats 1000000 in
theorem open_ok (x : Lz) (h : Tab w base n v L) (hb : base ≤ w.heap.size) (hs : Rises L) (hok : openOk L x = true) :
    Calls Try.prog 11 #[.pointer (some ⟨n, 0, none⟩), .int .i64 x.1, .int .i64 x.2.1, .int .i64 x.2.2] w fun e w' => e = .returned (.int .i64 0) ∧ ∃ v', Tab w' base n v' (insL L x) ∧ Goes w w' n v v' := by
  simp only [openOk, Bool.and_eq_true, Bool.not_eq_true', decide_eq_true_eq] at hok
  obtain ⟨⟨hr, hq⟩, hl⟩ := hok
  obtain ⟨ad, c, rfl, _⟩ := own_shape h.row
  have HX := Lib.hid (Box.new w 37 #[.int .i64 x.1, .int .i64 x.2.1, .int .i64 x.2.2])
  have B0 := Lib.hid ((Below.refl w.heap.size w).alloc (Nat.le_refl _) (.cells #[.int .i64 x.1, .int .i64 x.2.1, .int .i64 x.2.2] 37))
  have HT0 := Lib.hid (h.alloc (.cells #[.int .i64 x.1, .int .i64 x.2.1, .int .i64 x.2.2] 37))
  have HT := Lib.hid h
  clear h
  go_enter Try.func11, Try.ntmps11
  go_wp2_with fail
  generalize w.alloc (.cells #[.int .i64 x.1, .int .i64 x.2.1, .int .i64 x.2.2] 37) = w0 at HX B0 HT0 ⊢
  refine (find_any x.1 HT0.out hs (by omega)).mono ?_
  rintro e w1 ⟨rfl, b1⟩
  have HX1 := Lib.hid (HX.out.below b1 HX.out.lt)
  have B1 := Lib.hid (B0.out.trans (b1.mono B0.out.size))
  have HT1 := Lib.hid (HT0.out.below b1 (Nat.le_refl _))
  have p0 : w1.cell? ⟨w.heap.size, 0, none⟩ = some (.int .i64 x.1) := HX1.out.cell 0
  have p1 : w1.cell? ⟨w.heap.size, 1, none⟩ = some (.int .i64 x.2.1) := HX1.out.cell 1
  have p2 : w1.cell? ⟨w.heap.size, 2, none⟩ = some (.int .i64 x.2.2) := HX1.out.cell 2
  clear b1
  have C1 := Lib.hid (right_any x w1)
  unfold tv at C1
  rw [hr] at C1
  rw [hq]
  clear hr hq
  obtain ⟨k, hk⟩ : ∃ k, k = kOf L x.1 := ⟨_, rfl⟩
  have hkl : k ≤ L.length := by rw [hk]; exact kOf_le L x.1
  have HINS := Lib.hid (show insL L x = L.take k ++ x :: L.drop k by rw [insL, ← hk])
  rw [← hk]
  clear hk
  go_wp2_with fail
  refine C1.out.mono ?_
  rintro e w2 ⟨rfl, b2⟩
  have HX2 := Lib.hid (HX1.out.below b2 HX1.out.lt)
  have B2 := Lib.hid (B1.out.trans (b2.mono B1.out.size))
  have HT2 := Lib.hid (HT1.out.below b2 (Nat.le_refl _))
  have c0 : w2.cell? ⟨n, 0, none⟩ = some (.slice ad L.length c) := HT2.out.box.cell 0
  have hlt : ¬ (100 : Int) ≤ (L.length : Int) := by omega
  clear b2 C1 p0 p1 p2
  go_wp2
  refine wp_region_phase (fun w' => Box w' n 56 #[.slice ad L.length c] ∧ Box w' w.heap.size 37 #[.int .i64 x.1, .int .i64 x.2.1, .int .i64 x.2.2]) [true, true, true, true, true, true, true, false, false, false, false, false] 11 _ _ _ (by kernel_rfl) rfl rfl (by kernel_rfl) rfl rfl (fun _ _ _ _ _ h => h) (⟨HT2.out.box.drew, HX2.out.drew⟩) ?_
  intro S HS
  simp only [taken, leftOut]
  go_big_quiet_want; go_big_quiet_op; go_big_quiet_on
  go_big_quiet_want; go_big_quiet_op; go_big_quiet_on
  go_big_quiet_want; apply quiet_value; (· (intro w' hw; have c0 : w'.cell? ⟨n, 0, none⟩ = some (.slice ad L.length c) := ((HS.out _).1 hw).1.cell 0; have hn := ((HS.out _).1 hw).1.lt; go_simp; try rfl)); simp only [Act.put, List.setIfInBounds_toArray, List.set_cons_succ, List.set_cons_zero]; go_big_quiet_on
  go_big_quiet_want; apply quiet_value; (· (intro w' hw; go_simp; try rfl)); simp only [Act.put, List.setIfInBounds_toArray, List.set_cons_succ, List.set_cons_zero]; go_big_quiet_on
  go_big_quiet_want; apply quiet_value; (· (intro w' hw; have c0 : w'.cell? ⟨n, 0, none⟩ = some (.slice ad L.length c) := ((HS.out _).1 hw).1.cell 0; go_simp; try rfl)); simp only [Act.put, List.setIfInBounds_toArray, List.set_cons_succ, List.set_cons_zero]; go_big_quiet_on
  go_big_quiet_want; go_big_quiet_op; go_big_quiet_on
  go_big_quiet_want; apply quiet_value; (· (intro w' hw; have hx := ((HS.out _).1 hw).2; have x0 : w'.cell? ⟨w.heap.size, 0, none⟩ = some (.int .i64 x.1) := hx.cell 0; have x1 : w'.cell? ⟨w.heap.size, 1, none⟩ = some (.int .i64 x.2.1) := hx.cell 1; have x2 : w'.cell? ⟨w.heap.size, 2, none⟩ = some (.int .i64 x.2.2) := hx.cell 2; go_simp; try rfl)); simp only [Act.put, List.setIfInBounds_toArray, List.set_cons_succ, List.set_cons_zero]; go_big_quiet_on
  refine wpQuiet_nil ?_
  refine wpTail_more ?_
  go_wp2_with fail
  have HX3 := Lib.hid (HX2.out.drew.alloc (.cells #[.int .i64 x.1, .int .i64 x.2.1, .int .i64 x.2.2] 37))
  have HT3 := Lib.hid (HT2.out.drew.alloc (.cells #[.int .i64 x.1, .int .i64 x.2.1, .int .i64 x.2.2] 37))
  have HA3 := Lib.hid (Box.new w2.drew 37 #[.int .i64 x.1, .int .i64 x.2.1, .int .i64 x.2.2])
  have B3 := Lib.hid (B2.out.drew.alloc B2.out.drew.size (.cells #[.int .i64 x.1, .int .i64 x.2.1, .int .i64 x.2.2] 37))
  refine ThenS.mk ((HS.out _).2 ⟨HT3.out.box, HX3.out⟩) ?_
  refine wpTail_more ?_
  have hge := HT2.out.of_lt
  have CI := Lib.hid (insert_any x k ad c HT3.out.row hkl (by omega) w2.heap.size HA3.out (fun e => by have := hge w2.heap.size (.inr e); omega) (Nat.le_trans hb B3.out.size))
  go_wp2_with fail
  refine CI.out.mono ?_
  rintro e w4 ⟨v4, rfl, own4, g4, l4⟩
  have own4' : w4.ownsRow base 37 3 v4 (insL L x).length (cellsOf (insL L x)) := by
    rw [HINS.out]
    have : (L.take k ++ x :: L.drop k).length = L.length + 1 := by rw [List.length_append, List.length_take, List.length_cons, List.length_drop]; omega
    rw [this]
    exact own4
  obtain ⟨ad4, c4, rfl, _⟩ := own_shape own4'
  have hvn := HT3.out.vn
  have HN4 := Lib.hid (HT3.out.box.grown g4 (fun e => hvn e.symm))
  have hxb : some w.heap.size ≠ (Value.slice ad L.length c).ownBlock := fun e => by
    have h1 := HT.out.of_lt w.heap.size (.inr e.symm)
    omega
  have HX4 := Lib.hid (HX3.out.grown g4 hxb)
  have HO4 := Lib.hid own4'
  have HG4 := Lib.hid g4
  have HL4 := Lib.hid l4
  have HNL := Lib.hid HT.out.box.lt
  clear own4 own4' g4 l4 CI hge
  go_wp2_with fail
  refine ThenS.mk ((HS.out _).2 ⟨HN4.out, HX4.out⟩) ?_
  have c4' : w4.cell? ⟨n, 0, none⟩ = some (.slice ad L.length c) := HN4.out.cell 0
  have f4 := HN4.out.frozen 0
  have hn4 := HN4.out.lt
  refine wpTail_more ?_
  go_wp2_with fail
  refine ThenS.mk ((HS.out _).2 ⟨HN4.out, HX4.out⟩) ?_
  refine wpTail_more ?_
  go_wp2_with fail
  refine ThenS.mk ((HS.out _).2 ⟨HN4.out, HX4.out⟩) ?_
  refine wpTail_last ?_
  go_wp2
  go_ret
  have hne := own_box_ne HO4.out HN4.out (by decide)
  refine ⟨rfl, .slice ad4 (insL L x).length c4, ⟨HN4.out.set 0 _, own_stays HO4.out (fun k hk => Below.heap_setCell _ _ _ _ (fun e => hne (hk.trans (congrArg some e)))), HT.out.hn⟩, ⟨((Touch.of_below B3.out).grown HG4.out (fun k hk => .inl (.inr hk))).setCell (.inl rfl) _, fun k hk => ?_⟩⟩
  rcases HL4.out with h | h
  · exact .inl (h ▸ hk)
  · rw [h] at hk
    refine .inr ?_
    have h1 := B2.out.size
    have : k = (w2.drew.alloc (.cells #[.int .i64 x.1, .int .i64 x.2.1, .int .i64 x.2.2] 37)).heap.size := (Option.some.inj hk).symm
    have h2 : (w2.drew.alloc (.cells #[.int .i64 x.1, .int .i64 x.2.1, .int .i64 x.2.2] 37)).heap.size = w2.heap.size + 1 := by simp
    omega

/-- Open. -/
theorem open_all (x : Lz) (h : Tab w base n v L) (hb : base ≤ w.heap.size) (hs : Rises L) (hl : L.length ≤ 1000) :
    Calls Try.prog 11 #[.pointer (some ⟨n, 0, none⟩), .int .i64 x.1, .int .i64 x.2.1, .int .i64 x.2.2] w fun e w' => e = .returned (.int .i64 (if openOk L x then 0 else 1)) ∧ ∃ v', Tab w' base n v' (if openOk L x then insL L x else L) ∧ Goes w w' n v v' := by
  cases ho : openOk L x with
  | false => exact (open_no x h hs hl ho).mono fun _ _ ⟨he, hb'⟩ => ⟨he, v, h.below hb' (Nat.le_refl _), Goes.of_below hb'⟩
  | true => exact open_ok x h hb hs ho
end Go.Proofs.Ytkgnooogppkieaa
