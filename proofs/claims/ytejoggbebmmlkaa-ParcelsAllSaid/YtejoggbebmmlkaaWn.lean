/- parcels: Part. Conditions: the net lies in the call's own memory. -/
import Derived.Test.YtejoggbebmmlkaaWm
namespace Go.Proofs.Ytejoggbebmmlkaa
open Go.RowKit
set_option linter.unusedVariables false
set_option linter.unusedSimpArgs false
variable {w w' : World} {base n m : Nat} {v : Value} {ps : List Pk} {M : List (Int × Int)}

theorem Vars.drew {ba bb : Nat} {a b : Int} (h : Vars w ba bb a b) : Vars w.drew ba bb a b := ⟨h.fst.drew, h.snd.drew⟩
theorem part_any (a b : Int) (h : Net w base n m v ps M) (hb : base ≤ w.heap.size) (hM : ps.length ≤ 3000) :
    Calls Try.prog 16 #[.pointer (some ⟨n, 0, none⟩), .int .i64 a, .int .i64 b] w fun e w' => e = .returned (.tuple #[]) ∧ ∃ v', Net w' base n m v' (ps.filter fun p => !goesB a b p) (addKey M (pairOf2 a b)) ∧ Goes w w' n m v v' := by
  obtain ⟨ad, c, rfl, hcap⟩ := own_shape h.row
  have hHN := Lib.hid h
  have hB0 := Lib.hid (((Below.refl w.heap.size w).alloc (Nat.le_refl _) (.cells #[.int .i64 a] 3)).alloc (by simp) (.cells #[.int .i64 b] 3))
  have hV0 : Vars ((w.alloc (.cells #[.int .i64 a] 3)).alloc (.cells #[.int .i64 b] 3)) w.heap.size (w.heap.size + 1) a b := by
    refine ⟨(Box.new w 3 #[.int .i64 a]).alloc _, ?_⟩
    have := Box.new (w.alloc (.cells #[.int .i64 a] 3)) 3 #[.int .i64 b]
    simpa using this
  have HV0 := Lib.hid hV0
  have hsz0 : w.heap.size + 1 < ((w.alloc (.cells #[.int .i64 a] 3)).alloc (.cells #[.int .i64 b] 3)).heap.size := by simp
  have hn := h.box.lt
  clear h hV0 hcap
  go_enter Try.func16, Try.ntmps16
  go_wp2
  generalize (w.alloc (.cells #[.int .i64 a] 3)).alloc (.cells #[.int .i64 b] 3) = w0 at HV0 hB0 hsz0 ⊢
  have HN0 := Lib.hid (hHN.out.below hB0.out (Nat.le_refl _))
  refine wp_region_phase (fun w' => Box w' n 51 #[.slice ad ps.length c, .map (some m)] ∧ Vars w' w.heap.size (w.heap.size + 1) a b) [true, true, true, true, true, true, false, false] 7 _ _ _ (by kernel_rfl) rfl rfl (by kernel_rfl) rfl rfl (fun _ _ _ _ _ h => h) (⟨HN0.out.box.drew, HV0.out.drew⟩) ?_
  intro S HS
  simp only [taken, leftOut]
  go_big_quiet_want; go_big_quiet_op; go_big_quiet_on
  go_big_quiet_want; apply quiet_value; (· (intro w' hw; go_simp; try rfl)); simp only [Act.put, List.setIfInBounds_toArray, List.set_cons_succ, List.set_cons_zero]; go_big_quiet_on
  go_big_quiet_want; apply quiet_value; (· (intro w' hw; go_simp; try rfl)); simp only [Act.put, List.setIfInBounds_toArray, List.set_cons_succ, List.set_cons_zero]; go_big_quiet_on
  go_big_quiet_want; apply quiet_value; (· (intro w' hw; have c0 : w'.cell? ⟨n, 1, none⟩ = some (.map (some m)) := ((HS.out _).1 hw).1.cell 1; go_simp; try rfl)); simp only [Act.put, List.setIfInBounds_toArray, List.set_cons_succ, List.set_cons_zero]; go_big_quiet_on
  go_big_quiet_want; apply quiet_value; (· (intro w' hw; have c0 : w'.cell? ⟨w.heap.size, 0, none⟩ = some (.int .i64 a) := ((HS.out _).1 hw).2.fst.cell 0; go_simp; try rfl)); simp only [Act.put, List.setIfInBounds_toArray, List.set_cons_succ, List.set_cons_zero]; go_big_quiet_on
  go_big_quiet_want; apply quiet_value; (· (intro w' hw; have c0 : w'.cell? ⟨w.heap.size + 1, 0, none⟩ = some (.int .i64 b) := ((HS.out _).1 hw).2.snd.cell 0; go_simp; try rfl)); simp only [Act.put, List.setIfInBounds_toArray, List.set_cons_succ, List.set_cons_zero]; go_big_quiet_on
  refine wpQuiet_nil ?_
  refine wpTail_more ?_
  go_wp2_with fail
  refine (both_any a b _).mono ?_
  rintro e w1 ⟨rfl, b1⟩
  have HN1 := Lib.hid (HN0.out.drew.below b1 (Nat.le_refl _))
  have HV1 := Lib.hid (HV0.out.drew.below b1 (Nat.le_refl _))
  have hB1 := Lib.hid (hB0.out.drew.trans (b1.mono hB0.out.drew.size))
  obtain ⟨w2, hr, hm2, hg2⟩ := put_pair (pairOf2 a b) m M w1 HN1.out.map
  simp only [pairV, pairOf2] at hr
  have HM2 := Lib.hid hm2
  have HG2 := Lib.hid hg2
  have hsz1 := b1.size
  have hsz2 := hg2.size
  clear hm2 hg2 b1
  go_wp2_with fail
  refine ThenS.mk ((HS.out _).2 ⟨HN1.out.box, HV1.out⟩) ?_
  refine wpTail_last ?_
  have hnm := HN1.out.nm
  have hmo : ∀ k, (Value.slice ad ps.length c).ownBlock = some k → some k ≠ some m := fun k hk e => HN1.out.vm (hk.trans e)
  have HB2 := Lib.hid (HN1.out.box.grown HG2.out (by simpa using hnm))
  have HO2 := Lib.hid (own_stays HN1.out.row (fun k hk => HG2.out.block k (own_lt HN1.out.row k hk) (hmo k hk)))
  have hmw : m < w.heap.size := map_lt hHN.out.map
  have HV2 := Lib.hid (show Vars w2 w.heap.size (w.heap.size + 1) a b from ⟨HV1.out.fst.grown HG2.out (by simp; omega), HV1.out.snd.grown HG2.out (by simp; omega)⟩)
  have c0 : w2.cell? ⟨n, 0, none⟩ = some (.slice ad ps.length c) := HB2.out.cell 0
  have CD := Lib.hid (deleteFunc_any w.heap.size (w.heap.size + 1) a b ad c HO2.out HV2.out hM)
  clear hnm hmo
  go_wp2_with fail
  refine CD.out.mono ?_
  rintro e w3 ⟨v3, rfl, own3, hv3, g3⟩
  obtain ⟨ad3, c3, rfl, hc3⟩ := own_shape own3
  have vn : some n ≠ (Value.slice ad ps.length c).ownBlock := fun e => HN1.out.vn e.symm
  have vm : some m ≠ (Value.slice ad ps.length c).ownBlock := fun e => HN1.out.vm e.symm
  have HB3 := Lib.hid (HB2.out.grown g3 vn)
  have HM3 := Lib.hid (map_stays HM2.out (g3.block m (map_lt HM2.out) vm))
  have HO3 := Lib.hid own3
  have HV3 := Lib.hid hv3
  have HT3 : Hid (Touch (Of n m (Value.slice ad ps.length c)) w w3) := ((Touch.of_below hB1.out).grown HG2.out (fun k hk => .inl (.inr (.inl (by simpa using hk.symm))))).grown g3 (fun k hk => .inl (.inr (.inr hk)))
  have d0 : w3.cell? ⟨n, 0, none⟩ = some (.slice ad ps.length c) := HB3.out.cell 0
  have f0 := HB3.out.frozen 0
  clear own3 hv3 g3 vn vm c0 CD
  go_wp2
  go_end0
  have hne : (Value.slice ad3 (ps.filter fun p => !goesB a b p).length c3).ownBlock ≠ some n := by rw [HV3.out]; exact hHN.out.vn
  refine ⟨rfl, _, ⟨HB3.out.set 0 _, map_stays HM3.out (Below.heap_setCell _ _ _ _ (fun e => hHN.out.nm e.symm)), own_stays HO3.out (fun k hk => Below.heap_setCell _ _ _ _ (fun e => hne (hk.trans (congrArg some e)))), hHN.out.hn, hHN.out.hm⟩,
    ⟨HT3.out.setCell (.inl rfl) _, fun k hk => .inl (by rw [HV3.out] at hk; exact hk)⟩⟩
end Go.Proofs.Ytejoggbebmmlkaa
