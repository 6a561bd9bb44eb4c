/- parcels: Double, Heal. Conditions: the net lies in the call's own memory. -/
import Derived.Test.YtejoggbebmmlkaaWh
namespace Go.Proofs.Ytejoggbebmmlkaa
open Go.RowKit
set_option linter.unusedVariables false
set_option linter.unusedSimpArgs false
variable {w w' : World} {base n m : Nat} {v : Value} {ps : List Pk} {M : List (Int × Int)}

theorem double_none (k : Int) (h : Net w base n m v ps M) (hk : k < 0 ∨ (ps.length : Int) ≤ k) (hM : ps.length ≤ 3000) :
    Calls Try.prog 14 #[.pointer (some ⟨n, 0, none⟩), .int .i64 k] w fun e w' => e = .returned (.bool false) ∧ Below w.heap.size w w' := by
  have CA := Lib.hid (at_no k h hk hM)
  have hn := h.box.lt
  unfold zeroPk at CA
  clear h hk
  go_enter Try.func14, Try.ntmps14
  go_wp2_with fail
  refine CA.out.mono ?_
  rintro e w1 ⟨rfl, bel1⟩
  have hsz := bel1.size
  go_wp2
  go_ret
  exact ⟨rfl, bel1.alloc hsz _⟩

theorem double_full (k : Nat) (p : Pk) (h : Net w base n m v ps M) (hk : ps[k]? = some p) (hl : 2000 ≤ ps.length) (hM : ps.length ≤ 3000) :
    Calls Try.prog 14 #[.pointer (some ⟨n, 0, none⟩), .int .i64 (k : Int)] w fun e w' => e = .returned (.bool false) ∧ Below w.heap.size w w' := by
  have CA := Lib.hid (at_yes k p h hk hM)
  obtain ⟨ad, c, rfl, hcap⟩ := own_shape h.row
  have HN := Lib.hid h
  have hl' : (2000 : Int) ≤ (ps.length : Int) := by omega
  unfold pv at CA
  clear h hk hcap
  go_enter Try.func14, Try.ntmps14
  go_wp2_with fail
  refine CA.out.mono ?_
  rintro e w1 ⟨rfl, bel1⟩
  have hsz := bel1.size
  have hN1 := HN.out.below bel1 (Nat.le_refl _)
  have c0 : w1.cell? ⟨n, 0, none⟩ = some (.slice ad ps.length c) := hN1.box.cell 0
  have hn1 := hN1.box.lt
  clear hN1
  go_wp2
  go_ret
  exact ⟨rfl, bel1.alloc hsz _⟩

set_option maxRecDepth 100000 in
theorem double_ok (k : Nat) (p : Pk) (h : Net w base n m v ps M) (hb : base ≤ w.heap.size) (hk : ps[k]? = some p) (hl : ps.length < 2000) :
    Calls Try.prog 14 #[.pointer (some ⟨n, 0, none⟩), .int .i64 (k : Int)] w fun e w' => e = .returned (.bool true) ∧ ∃ v', Net w' base n m v' (ps ++ [p]) M ∧ Goes w w' n m v v' := by
  have CA := Lib.hid (at_yes k p h hk (by omega))
  obtain ⟨ad, c, rfl, hcap⟩ := own_shape h.row
  have hHN := Lib.hid h
  have hl' : ¬ (2000 : Int) ≤ (ps.length : Int) := by omega
  have HLL := Lib.hid hl
  have HBB := Lib.hid hb
  unfold pv at CA
  clear h hk hcap hl hb
  go_enter Try.func14, Try.ntmps14
  go_wp2_with fail
  refine CA.out.mono ?_
  rintro e w1 ⟨rfl, bel1⟩
  have hsz := bel1.size
  have c0 : w1.cell? ⟨n, 0, none⟩ = some (.slice ad ps.length c) := (hHN.out.below bel1 (Nat.le_refl _)).box.cell 0
  have hn1 := (hHN.out.below bel1 (Nat.le_refl _)).box.lt
  clear CA
  go_wp2
  have bel := Lib.hid (bel1.alloc hsz (.cells #[.int .i64 p.1, .int .i64 p.2.1, .string p.2.2] 27))
  have HN1 := Lib.hid (hHN.out.below bel.out (Nat.le_refl _))
  have HP1 := Lib.hid (Box.new w1 27 #[.int .i64 p.1, .int .i64 p.2.1, .string p.2.2])
  have hsz5 : w1.heap.size < (w1.alloc (.cells #[.int .i64 p.1, .int .i64 p.2.1, .string p.2.2] 27)).heap.size := by simp
  generalize w1.alloc (.cells #[.int .i64 p.1, .int .i64 p.2.1, .string p.2.2] 27) = w5 at HN1 HP1 bel hsz5 ⊢
  have hl := HLL.out
  have hb := HBB.out
  clear bel1
  obtain ⟨i0, hi, hz0, hz1, hz2⟩ := info_parts row27
  have hz : i0.zero = some zeroPk := hz0
  clear hz0
  refine wp_region_phase (fun w' => Box w' n 51 #[.slice ad ps.length c, .map (some m)] ∧ Box w' w1.heap.size 27 #[.int .i64 p.1, .int .i64 p.2.1, .string p.2.2]) [true, true, true, true, true, true, false, false, false, false, false] 10 _ _ _ (by kernel_rfl) rfl rfl (by kernel_rfl) rfl rfl (fun _ _ _ _ _ h => h) (⟨HN1.out.box.drew, HP1.out.drew⟩) ?_
  intro S HS
  simp only [taken, leftOut]
  go_big_quiet_want; go_big_quiet_op; go_big_quiet_on
  go_big_quiet_want; go_big_quiet_op; go_big_quiet_on
  go_big_quiet_want; apply quiet_value; (· (intro w' hw; go_simp; try rfl)); simp only [Act.put, List.setIfInBounds_toArray, List.set_cons_succ, List.set_cons_zero]; go_big_quiet_on
  go_big_quiet_want; apply quiet_value; (· (intro w' hw; go_simp; try rfl)); simp only [Act.put, List.setIfInBounds_toArray, List.set_cons_succ, List.set_cons_zero]; go_big_quiet_on
  go_big_quiet_want; apply quiet_value; (· (intro w' hw; have c0 : w'.cell? ⟨n, 0, none⟩ = some (.slice ad ps.length c) := ((HS.out _).1 hw).1.cell 0; go_simp; try rfl)); simp only [Act.put, List.setIfInBounds_toArray, List.set_cons_succ, List.set_cons_zero]; go_big_quiet_on
  go_big_quiet_want; apply quiet_value; (· (intro w' hw; have c0 : w'.cell? ⟨w1.heap.size, 0, none⟩ = some (.int .i64 p.1) := ((HS.out _).1 hw).2.cell 0; have c1 : w'.cell? ⟨w1.heap.size, 1, none⟩ = some (.int .i64 p.2.1) := ((HS.out _).1 hw).2.cell 1; have c2 : w'.cell? ⟨w1.heap.size, 2, none⟩ = some (.string p.2.2) := ((HS.out _).1 hw).2.cell 2; go_simp; try rfl)); simp only [Act.put, List.setIfInBounds_toArray, List.set_cons_succ, List.set_cons_zero]; go_big_quiet_on
  refine wpQuiet_nil ?_
  refine wpTail_more ?_
  go_wp2_with fail
  refine ThenS.mk ((HS.out _).2 ⟨HN1.out.box.drew.alloc _, HP1.out.drew.alloc _⟩) ?_
  refine wpTail_more ?_
  have HN2 := Lib.hid (HN1.out.drew.alloc (.cells #[.int .i64 p.1, .int .i64 p.2.1, .string p.2.2] 27))
  have HX2 := Lib.hid (src3 (w5).drew p)
  go_wp2_with (at_builtin; refine wpList_append_at rfl (.tmp 27) (.tmp 29) 22 rfl base 27 i0 zeroPk 3 32 Try.underlying22 hi hz hz1 hz2 rfl (by decide) _ _ _ rfl HN2.out.row _ _ _ _ rfl HX2.out ?c2 ?c3 ?c4 ?_)
  case c2 => unfold maxLen; omega
  case c3 => omega
  case c4 => simp; omega
  intro v3 w3 own3 g3 at3
  obtain ⟨ad3, c3, rfl, hc3⟩ := own_shape own3
  have vn : some n ≠ (Value.slice ad ps.length c).ownBlock := fun e => HN1.out.vn e.symm
  have vm : some m ≠ (Value.slice ad ps.length c).ownBlock := fun e => HN1.out.vm e.symm
  have vp : some (w1.heap.size) ≠ (Value.slice ad ps.length c).ownBlock := fun e => by have := own_lt hHN.out.row _ e.symm; omega
  have hS3 : S w3 := (HS.out _).2 ⟨HN2.out.box.grown g3 vn, (HP1.out.drew.alloc _).grown g3 vp⟩
  have HS3 := Lib.hid hS3
  have HM3 := Lib.hid (map_stays HN2.out.map (g3.block m (map_lt HN2.out.map) vm))
  have HT3 : Hid (Touch (Of n m (Value.slice ad ps.length c)) w w3) := (Touch.of_below (bel.out.drew.alloc (by simp; omega) (.cells #[.int .i64 p.1, .int .i64 p.2.1, .string p.2.2] 27))).grown g3 (fun k hk => .inl (.inr (.inr hk)))
  have HO3 := Lib.hid own3
  have HA3 := Lib.hid at3
  clear hS3 own3 g3 at3 vn vm vp
  go_wp2_with fail
  refine ThenS.mk HS3.out ?_
  refine wpTail_more ?_
  go_wp2_with fail
  refine ThenS.mk HS3.out ?_
  refine wpTail_more ?_
  go_wp2_with fail
  refine ThenS.mk HS3.out ?_
  refine wpTail_last ?_
  have d0 : w3.cell? ⟨n, 0, none⟩ = some (.slice ad ps.length c) := ((HS.out _).1 HS3.out).1.cell 0
  have f0 := ((HS.out _).1 HS3.out).1.frozen 0
  go_wp2_with fail
  go_ret
  have hne : (Value.slice ad3 (ps.length + 1) c3).ownBlock ≠ some n := by
    have := own_box_ne HO3.out ((HS.out _).1 HS3.out).1 (by decide); exact this
  refine ⟨rfl, .slice ad3 (ps.length + 1) c3, ⟨((HS.out _).1 HS3.out).1.set 0 _, map_stays HM3.out (Below.heap_setCell _ _ _ _ (fun e => hHN.out.nm e.symm)), ?_, hHN.out.hn, hHN.out.hm⟩, ⟨HT3.out.setCell (.inl rfl) _, fun k hk => ?_⟩⟩
  · rw [cells_snoc, List.length_append]
    exact own_stays HO3.out (fun k hk => Below.heap_setCell _ _ _ _ (fun e => hne (hk.trans (congrArg some e))))
  · rcases HA3.out with h | h
    · exact .inl (h ▸ hk)
    · rw [h] at hk
      refine .inr ?_
      have : k = w5.heap.size + 1 := by simp at hk; omega
      omega

theorem heal_any (h : Net w base n m v ps M) : Calls Try.prog 17 #[.pointer (some ⟨n, 0, none⟩)] w fun e w' => e = .returned (.tuple #[]) ∧ Net w' base n m v ps [] ∧ Goes w w' n m v v := by
  have c1 : w.cell? ⟨n, 1, none⟩ = some (.map (some m)) := h.box.cell 1
  obtain ⟨w1, hr, hm1, hg1⟩ := clear_pair m M w 0 h.map
  have HN := Lib.hid h
  have HM := Lib.hid hm1
  have HG := Lib.hid hg1
  clear h hm1 hg1
  go_enter Try.func17, Try.ntmps17
  go_wp2
  go_end0
  have hnm := HN.out.nm
  exact ⟨rfl, ⟨HN.out.box.grown HG.out (by simpa using hnm), HM.out, own_stays HN.out.row (fun k hk => HG.out.block k (own_lt HN.out.row k hk) (fun e => HN.out.vm (hk.trans e))), HN.out.hn, HN.out.hm⟩,
    ⟨(Touch.refl _ w).grown HG.out (fun k hk => .inl (.inr (.inl (by simpa using hk.symm)))), fun k hk => .inl hk⟩⟩
end Go.Proofs.Ytejoggbebmmlkaa
