/- ledger: a mark is looked at. Conditions: the ledger lies in the call's own memory, the disk is not dead, the sector is there. -/
import Derived.Test.YtdiboicllolcnaaLc
import Derived.ChangeKeysEq
import Derived.Laws.Cover3
import Derived.Deep.Cut
import Derived.Deep.CutBlock
namespace Go.Proofs.Ytdiboicllolcnaa
open Go Go.RowKit
set_option linter.unusedVariables false
set_option linter.unusedSimpArgs false
variable {w w' : World} {base n nd : Nat} {V V' : Vl} {VD VD' : Vs} {D D' : Dk} {G G' : Lg}

theorem part5 (xs : Array Value) (k : Nat) (v : Value) (h : xs[k]? = some v) (w : World) : (part 5 xs k).run Try.prog w = .ok v w := by
  have ha : (isAgg 5).run Try.prog w = .ok false w := by kernel_rfl
  simp [part, ha, h]
theorem eq5 (d : Nat) (a b : Int) (w : World) : (Op.equalIn (d + 1) 5 (.int .u8 a) (.int .u8 b)).run Try.prog w = .ok (a == b) w := by
  simp only [Op.equalIn, Sem.run_bind, run_underlying Try.underlying5, Result.andThen_ok]
  rfl
theorem eqItems5 (d : Nat) (x y : Sec) (w : World) : ∀ (l : List Nat), (∀ i ∈ l, i < x.length ∧ i < y.length) → (Op.eqItems (d + 1) 5 1 (bc x).toArray (bc y).toArray l).run Try.prog w = .ok (decide (∀ i ∈ l, x[i]? = y[i]?)) w := by
  intro l
  induction l with
  | nil => intro _; simp [Op.eqItems]
  | cons i l ih =>
    intro h
    have h0 := h i (by simp)
    have e1 : (bc x).toArray[i]? = some (.int .u8 (x[i]'h0.1).toNat) := by simp [bc, h0.1]
    have e2 : (bc y).toArray[i]? = some (.int .u8 (y[i]'h0.2).toNat) := by simp [bc, h0.2]
    have p1 := part5 _ _ _ e1 w
    have p2 := part5 _ _ _ e2 w
    have ih' := ih fun j hj => h j (by simp [hj])
    unfold Op.eqItems
    simp only [Nat.mul_one, Sem.run_bind, p1, p2, Result.andThen_ok, eq5]
    by_cases he : x[i]'h0.1 = y[i]'h0.2
    · simp only [he, beq_self_eq_true, Bool.not_true, Bool.false_eq_true, if_false, ih']
      congr 1
      simp [List.getElem?_eq_getElem h0.1, List.getElem?_eq_getElem h0.2, he]
    · have hne : ((x[i]'h0.1).toNat : Int) ≠ ((y[i]'h0.2).toNat : Int) := fun h => he (UInt8.toNat_inj.1 (by omega))
      have hb : (((x[i]'h0.1).toNat : Int) == ((y[i]'h0.2).toNat : Int)) = false := by simpa using hne
      simp only [hb, Bool.not_false, if_true, Sem.run_pure]
      congr 1
      simp [List.getElem?_eq_getElem h0.1, List.getElem?_eq_getElem h0.2, he]
theorem eq93 (x y : Sec) (hx : x.length = 8) (hy : y.length = 8) (w : World) : (Op.equalIn 10000 93 (.agg (bc x).toArray) (.agg (bc y).toArray)).run Try.prog w = .ok (decide (x = y)) w := by
  obtain ⟨i0, hi, _⟩ := info_parts row5
  have h1 := run_equalIn_array (P := Try.prog) (w := w) 9999 (t := 93) (e := 5) (n := 8) (i := i0) (bc x).toArray (bc y).toArray Try.underlying93 hi
  have hc : Try.prog.cellsOf 5 = 1 := by kernel_rfl
  rw [hc, eqItems5 9998 x y w _ (fun i hi => by have := List.mem_range.1 hi; omega)] at h1
  have h2 : (decide (∀ i ∈ List.range 8, x[i]? = y[i]?)) = decide (x = y) := by
    congr 1
    apply propext
    constructor
    · intro h
      apply List.ext_getElem?
      intro i
      by_cases hi : i < 8
      · exact h i (by simp [hi])
      · rw [List.getElem?_eq_none (by omega), List.getElem?_eq_none (by omega)]
    · rintro rfl i _
      rfl
  rw [h2] at h1
  exact h1
theorem gd93 (xs ys : Array Value) (w : World) : (eqGuard .neq 93 (.tmp 30) (.tmp 34) (.agg xs) (.agg ys)).run Try.prog w = .ok () w := by
  kernel_rfl

theorem ret_four {fn : Func} {R : Ending → World → Prop} {act : Act} {w : World} {x y z u : Value} {a b c d : Nat} (h : fn.results = #[.tmp a, .tmp b, .tmp c, .tmp d]) (hd : act.defers = []) (ha : act.tmps.getD a undef = x) (hb : act.tmps.getD b undef = y) (hc : act.tmps.getD c undef = z) (hu : act.tmps.getD d undef = u)
    (hR : R (.returned (.tuple #[x, y, z, u])) w) : bodyPost Try.prog fn R .ret act w := by
  refine bodyPost_ret (v := .tuple #[x, y, z, u]) ?_ hd hR
  rw [Array.getD_eq_getD_getElem?] at ha hb hc hu
  simp [results, h, ha, hb, hc, hu, go_sem]
theorem wp_name {P : Program} {c : Code} {Q : Exit → Act → World → Prop} {a : Act} {w : World} (F : World → Prop) (hF : F w) (h : ∀ W, F W → c.wp P Q a W) : c.wp P Q a w := h w hF
def lookR (G : Lg) (X : Sec) : Nat × Nat × Nat × Bool :=
  if X.take 8 = X.drop 56 then (num (X.take 8), (X.getD 8 0).toNat, num ((X.drop 9).take 4), decide ((X.getD 8 0).toNat < 2) && decide (num ((X.drop 9).take 4) ≤ G.size * 64)) else (0, 0, 0, false)
theorem bc_take8 {X : Sec} (h : X.length = 64) : ((bc X).drop 0).take (bc (X.take 8)).length = bc (X.take 8) := by
  rw [bc_len, List.length_take, h, List.drop_zero]
  simp [bc, List.map_take]
theorem bc_drop8 {X : Sec} (h : X.length = 64) : ((bc X).drop 56).take (bc (X.drop 56)).length = bc (X.drop 56) := by
  rw [bc_len, List.length_drop, h]
  rw [List.take_of_length_le (by rw [List.length_drop, bc_len, h]; exact Nat.le_refl _)]
  simp [bc, List.map_drop]
theorem may_live {k : Nat} (hd : D.dead = false) (hk : k < D.now.length) : mayE D ((k : Nat) : Int) = 0 := by
  unfold mayE
  rw [hd]
  simp only [Bool.false_eq_true, if_false]
  rw [if_neg (by omega)]
set_option maxRecDepth 100000 in
set_option maxHeartbeats 4000000 in
theorem look_no (m : Nat) (X : Sec) (h : Ldg w base n nd V VD D G) (hf : Fits G D) (hg : Good D) (hd : D.dead = false) (hX : D.now[G.from_ + m]? = some X) (hm : m < 2) (hne : X.take 8 ≠ X.drop 56) :
    Calls Try.prog 40 #[.pointer (some ⟨n, 0, none⟩), .int .i64 m] w fun e w' => e = .returned (.tuple #[.int .u64 0, .int .i64 0, .int .i64 0, .bool false]) ∧ Below w.heap.size w w' := by
  have hk : G.from_ + m < D.now.length := (List.getElem?_eq_some_iff.1 hX).1
  have hX64 : X.length = 64 := hg.fulln X (List.mem_of_getElem? hX)
  have HBX := Lib.hid h.box
  have HD := Lib.hid h.dsk
  have HG := Lib.hid hg
  have HXD := Lib.hid hX
  have HMAY := Lib.hid (may_live hd hk)
  have h2 := hf.disk
  have hw1 : IntKind.i64.wrap ((G.from_ : Int) + (m : Int)) = ((G.from_ + m : Nat) : Int) := by rw [IntKind.wrap_i64]; omega
  clear h hf hg hd hX
  have HNE := Lib.hid (show decide (X.take 8 = X.drop 56) = false from decide_eq_false hne)
  clear hne
  go_enter Try.func40, Try.ntmps40
  go_upto_region 1 with (fail)
  refine wp_region_steps (fun w' => Box w' n 71 (lcs nd V G)) [(true, 0), (true, 1), (true, 2), (true, 3), (true, 4), (true, 5), (true, 6), (true, 7), (true, 8), (true, 9), (false, 10), (true, 11), (true, 12), (true, 13), (true, 14), (false, 15)] 15 _ _ (by kernel_rfl) rfl (by kernel_rfl) (by kernel_rfl) rfl (fun _ _ _ _ _ h => h) HBX.out.drew ?_
  intro S HS
  simp only [pickS, List.getElem?_cons_zero, List.getElem?_cons_succ]
  refine wpSteps_head ?_
  go_big_quiet_want; go_big_quiet_op; go_big_quiet_on
  refine wpQuiet_nil ?_
  refine wpSteps_head ?_
  go_big_quiet_want; apply quiet_value; (· (intro w' hw; have hB := (HS.out _).1 hw; have hbl := hB.lt; go_simp; try rfl)); simp only [Act.put, List.setIfInBounds_toArray, List.set_cons_succ, List.set_cons_zero]; go_big_quiet_on
  refine wpQuiet_nil ?_
  refine wpSteps_head ?_
  go_big_quiet_want; apply quiet_value; (· (intro w' hw; have hB := (HS.out _).1 hw; have hbl := hB.lt; go_simp; try rfl)); simp only [Act.put, List.setIfInBounds_toArray, List.set_cons_succ, List.set_cons_zero]; go_big_quiet_on
  refine wpQuiet_nil ?_
  refine wpSteps_head ?_
  go_big_quiet_want; apply quiet_value; (· (intro w' hw; have hB := (HS.out _).1 hw; have hbl := hB.lt; have p0 : w'.cell? ⟨n, 0, none⟩ = some (.pointer (some ⟨nd, 0, none⟩)) := hB.cell 0; go_simp; try rfl)); simp only [Act.put, List.setIfInBounds_toArray, List.set_cons_succ, List.set_cons_zero]; go_big_quiet_on
  refine wpQuiet_nil ?_
  refine wpSteps_head ?_
  go_big_quiet_want; go_big_quiet_op; go_big_quiet_on
  refine wpQuiet_nil ?_
  refine wpSteps_head ?_
  go_big_quiet_want; apply quiet_value; (· (intro w' hw; have hB := (HS.out _).1 hw; have hbl := hB.lt; go_simp; try rfl)); simp only [Act.put, List.setIfInBounds_toArray, List.set_cons_succ, List.set_cons_zero]; go_big_quiet_on
  refine wpQuiet_nil ?_
  refine wpSteps_head ?_
  go_big_quiet_want; apply quiet_value; (· (intro w' hw; have hB := (HS.out _).1 hw; have hbl := hB.lt; go_simp; try rfl)); simp only [Act.put, List.setIfInBounds_toArray, List.set_cons_succ, List.set_cons_zero]; go_big_quiet_on
  refine wpQuiet_nil ?_
  refine wpSteps_head ?_
  go_big_quiet_want; apply quiet_value; (· (intro w' hw; have hB := (HS.out _).1 hw; have hbl := hB.lt; have p1 : w'.cell? ⟨n, 1, none⟩ = some (.int .i64 (G.from_ : Nat)) := hB.cell 1; go_simp; try rfl)); simp only [Act.put, List.setIfInBounds_toArray, List.set_cons_succ, List.set_cons_zero]; go_big_quiet_on
  refine wpQuiet_nil ?_
  refine wpSteps_head ?_
  go_big_quiet_want; go_big_quiet_op; go_big_quiet_on
  refine wpQuiet_nil ?_
  refine wpSteps_head ?_
  go_big_quiet_want; apply quiet_value; (· (intro w' hw; go_simp; try rfl)); simp only [Act.put, List.setIfInBounds_toArray, List.set_cons_succ, List.set_cons_zero]; go_big_quiet_on
  refine wpQuiet_nil ?_
  refine wpSteps_more ?_
  go_wp2_with fail
  refine (read_any ((G.from_ + m : Nat) : Int) (HD.out.drew) HG.out).mono ?_
  rintro e w5 (⟨hne, _⟩ | ⟨_, X', hX', rfl, rfl⟩)
  · exact absurd HMAY.out hne
  have hXX : X' = X := by
    rw [Int.toNat_natCast, HXD.out] at hX'
    exact (Option.some.inj hX').symm
  rw [hXX]
  clear hX' hXX
  go_wp2_with fail
  refine ThenS.mk ((HS.out _).2 (HBX.out.drew.alloc _)) ?_
  refine wpSteps_head ?_
  go_big_quiet_want; go_big_quiet_op; go_big_quiet_on
  refine wpQuiet_nil ?_
  refine wpSteps_head ?_
  go_big_quiet_want; apply quiet_value; (· (intro w' hw; go_simp; try rfl)); simp only [Act.put, List.setIfInBounds_toArray, List.set_cons_succ, List.set_cons_zero]; go_big_quiet_on
  refine wpQuiet_nil ?_
  refine wpSteps_head ?_
  go_big_quiet_want; apply quiet_value; (· (intro w' hw; go_simp; try rfl)); simp only [Act.put, List.setIfInBounds_toArray, List.set_cons_succ, List.set_cons_zero]; go_big_quiet_on
  refine wpQuiet_nil ?_
  refine wpSteps_head ?_
  go_big_quiet_want; go_big_quiet_op; go_big_quiet_on
  refine wpQuiet_nil ?_
  refine wpSteps_last ?_
  go_upto_region 2 with (fail)

  have HA := Lib.hid (show Box (w.alloc (.cells (bc X).toArray 81)).drew w.heap.size 81 (bc X).toArray from Box.new w 81 _)
  have BB := Lib.hid (show Below w.heap.size w (w.alloc (.cells (bc X).toArray 81)).drew from ((Below.refl w.heap.size w).alloc (Nat.le_refl _) _).drew)
  obtain ⟨g, hg⟩ : ∃ g, g = w.heap.size := ⟨_, rfl⟩
  have HQ := HA.out
  rw [← hg] at HQ ⊢
  refine wp_name (fun W => Box W g 81 (bc X).toArray ∧ Below w.heap.size w W) ⟨HQ, BB.out⟩ ?_
  clear HQ BB HS HA hg
  rintro W5 ⟨hQ, hB⟩
  have HQ := Lib.hid hQ
  have HB := Lib.hid hB
  clear hQ hB
  refine wp_region_below (w0 := W5) (B := W5.heap.size) (by kernel_rfl) (by kernel_rfl) (Below.refl _ _) ?_
  go_big_quiet_want; go_big_quiet_op; go_big_quiet_on
  go_big_quiet_want; apply quiet_value; (· (intro w hw; go_simp; try rfl)); simp only [Act.put, List.setIfInBounds_toArray, List.set_cons_succ, List.set_cons_zero]; go_big_quiet_on
  go_big_quiet_want; go_big_quiet_op; go_big_quiet_on
  go_big_quiet_want; go_big_quiet_op; go_big_quiet_on
  go_big_quiet_want; apply quiet_value; (· (intro w hw; go_simp; try rfl)); simp only [Act.put, List.setIfInBounds_toArray, List.set_cons_succ, List.set_cons_zero]; go_big_quiet_on
  go_big_quiet_want; apply quiet_value; (· (intro w hw; go_simp; try rfl)); simp only [Act.put, List.setIfInBounds_toArray, List.set_cons_succ, List.set_cons_zero]; go_big_quiet_on
  go_big_quiet_want; apply quiet_value; (· (intro w hw; have hX := HQ.out.below hw HQ.out.lt; refine load_box_val 93 (.tmp 29) ?_ g 0 ?_ hX (bc (X.take 8)) (by rw [List.toList_toArray]; exact bc_take8 hX64) Try.underlying93 rfl (by rw [bc_len, List.length_take, hX64]; kernel_rfl) <;> rfl)); simp only [Act.put, List.setIfInBounds_toArray, List.set_cons_succ, List.set_cons_zero]; go_big_quiet_on
  go_big_quiet_want; go_big_quiet_op; go_big_quiet_on
  go_big_quiet_want; apply quiet_value; (· (intro w hw; go_simp; try rfl)); simp only [Act.put, List.setIfInBounds_toArray, List.set_cons_succ, List.set_cons_zero]; go_big_quiet_on
  go_big_quiet_want; apply quiet_value; (· (intro w hw; go_simp; try rfl)); simp only [Act.put, List.setIfInBounds_toArray, List.set_cons_succ, List.set_cons_zero]; go_big_quiet_on
  go_big_quiet_want; apply quiet_value; (· (intro w hw; have hX := HQ.out.below hw HQ.out.lt; refine load_box_val 93 (.tmp 33) ?_ g 56 ?_ hX (bc (X.drop 56)) (by rw [List.toList_toArray]; exact bc_drop8 hX64) Try.underlying93 rfl (by rw [bc_len, List.length_drop, hX64]; kernel_rfl) <;> rfl)); simp only [Act.put, List.setIfInBounds_toArray, List.set_cons_succ, List.set_cons_zero]; go_big_quiet_on
  go_big_quiet_want; apply quiet_value (v := .bool true); (· (intro w hw; have e1 := (eq93 (X.take 8) (X.drop 56) (by rw [List.length_take, hX64]; rfl) (by rw [List.length_drop, hX64]) w).trans (by rw [HNE.out]); have e2 := gd93 (bc (X.take 8)).toArray (bc (X.drop 56)).toArray w; go_simp; try rfl)); simp only [Act.put, List.setIfInBounds_toArray, List.set_cons_succ, List.set_cons_zero]; go_big_quiet_on
  go_big_quiet_want; apply quiet_value; (· (intro w hw; go_simp; try rfl)); simp only [Act.put, List.setIfInBounds_toArray, List.set_cons_succ, List.set_cons_zero]; go_big_quiet_on
  refine wpQuiet_nil ?_
  intro w6 b6
  have HQ6 := Lib.hid (HQ.out.below b6 HQ.out.lt)
  have HB6 := Lib.hid (HB.out.trans (b6.mono HB.out.size))
  clear b6 HQ HB

  go_wp2_with fail
  exact ret_four Try.results40 rfl rfl rfl rfl rfl ⟨rfl, HB6.out⟩
theorem bys_box {g : Nat} {T : TypeId} {X : Sec} (h : Box w g T (bc X).toArray) (hX : X.length = 64) (o l : Nat) (ho : o + l ≤ 64) : Bys w (some ⟨g, o, none⟩) l ((X.drop o).take l) := by
  refine ⟨by rw [List.length_take, List.length_drop, hX]; omega, by unfold maxLen; omega, .inr ⟨g, o, rfl, h.lt, fun j v hj => ?_⟩⟩
  rw [h.cell (o + j), List.getElem?_toArray]
  have hj2 : j < l := by
    have := (List.getElem?_eq_some_iff.1 hj).1
    rw [bc_len, List.length_take] at this
    omega
  unfold bc at hj ⊢
  rw [List.getElem?_map, List.getElem?_take_of_lt hj2, List.getElem?_drop] at hj
  rw [List.getElem?_map]
  exact hj
set_option maxRecDepth 100000 in
set_option maxHeartbeats 8000000 in
theorem look_yes (m : Nat) (X : Sec) (h : Ldg w base n nd V VD D G) (hf : Fits G D) (hg : Good D) (hd : D.dead = false) (hX : D.now[G.from_ + m]? = some X) (hm : m < 2) (hne : X.take 8 = X.drop 56) :
    Calls Try.prog 40 #[.pointer (some ⟨n, 0, none⟩), .int .i64 m] w fun e w' => e = .returned (.tuple #[.int .u64 (num (X.take 8) : Nat), .int .i64 ((X.getD 8 0).toNat : Nat), .int .i64 (num ((X.drop 9).take 4) : Nat), .bool (decide ((X.getD 8 0).toNat < 2) && decide (num ((X.drop 9).take 4) ≤ G.size * 64))]) ∧ Below w.heap.size w w' := by
  have hLD := h
  have hLF := hf
  have hk : G.from_ + m < D.now.length := (List.getElem?_eq_some_iff.1 hX).1
  have hX64 : X.length = 64 := hg.fulln X (List.mem_of_getElem? hX)
  have HBX := Lib.hid h.box
  have HD := Lib.hid h.dsk
  have HG := Lib.hid hg
  have HXD := Lib.hid hX
  have HMAY := Lib.hid (may_live hd hk)
  have h2 := hf.disk
  have hw1 : IntKind.i64.wrap ((G.from_ : Int) + (m : Int)) = ((G.from_ + m : Nat) : Int) := by rw [IntKind.wrap_i64]; omega
  clear h hf hg hd hX
  have HNE := Lib.hid (show decide (X.take 8 = X.drop 56) = true from decide_eq_true hne)
  have HLD := Lib.hid hLD
  have HLF := Lib.hid hLF
  clear hne hLD hLF
  go_enter Try.func40, Try.ntmps40
  go_upto_region 1 with (fail)
  refine wp_region_steps (fun w' => Box w' n 71 (lcs nd V G)) [(true, 0), (true, 1), (true, 2), (true, 3), (true, 4), (true, 5), (true, 6), (true, 7), (true, 8), (true, 9), (false, 10), (true, 11), (true, 12), (true, 13), (true, 14), (false, 15)] 15 _ _ (by kernel_rfl) rfl (by kernel_rfl) (by kernel_rfl) rfl (fun _ _ _ _ _ h => h) HBX.out.drew ?_
  intro S HS
  simp only [pickS, List.getElem?_cons_zero, List.getElem?_cons_succ]
  refine wpSteps_head ?_
  go_big_quiet_want; go_big_quiet_op; go_big_quiet_on
  refine wpQuiet_nil ?_
  refine wpSteps_head ?_
  go_big_quiet_want; apply quiet_value; (· (intro w' hw; have hB := (HS.out _).1 hw; have hbl := hB.lt; go_simp; try rfl)); simp only [Act.put, List.setIfInBounds_toArray, List.set_cons_succ, List.set_cons_zero]; go_big_quiet_on
  refine wpQuiet_nil ?_
  refine wpSteps_head ?_
  go_big_quiet_want; apply quiet_value; (· (intro w' hw; have hB := (HS.out _).1 hw; have hbl := hB.lt; go_simp; try rfl)); simp only [Act.put, List.setIfInBounds_toArray, List.set_cons_succ, List.set_cons_zero]; go_big_quiet_on
  refine wpQuiet_nil ?_
  refine wpSteps_head ?_
  go_big_quiet_want; apply quiet_value; (· (intro w' hw; have hB := (HS.out _).1 hw; have hbl := hB.lt; have p0 : w'.cell? ⟨n, 0, none⟩ = some (.pointer (some ⟨nd, 0, none⟩)) := hB.cell 0; go_simp; try rfl)); simp only [Act.put, List.setIfInBounds_toArray, List.set_cons_succ, List.set_cons_zero]; go_big_quiet_on
  refine wpQuiet_nil ?_
  refine wpSteps_head ?_
  go_big_quiet_want; go_big_quiet_op; go_big_quiet_on
  refine wpQuiet_nil ?_
  refine wpSteps_head ?_
  go_big_quiet_want; apply quiet_value; (· (intro w' hw; have hB := (HS.out _).1 hw; have hbl := hB.lt; go_simp; try rfl)); simp only [Act.put, List.setIfInBounds_toArray, List.set_cons_succ, List.set_cons_zero]; go_big_quiet_on
  refine wpQuiet_nil ?_
  refine wpSteps_head ?_
  go_big_quiet_want; apply quiet_value; (· (intro w' hw; have hB := (HS.out _).1 hw; have hbl := hB.lt; go_simp; try rfl)); simp only [Act.put, List.setIfInBounds_toArray, List.set_cons_succ, List.set_cons_zero]; go_big_quiet_on
  refine wpQuiet_nil ?_
  refine wpSteps_head ?_
  go_big_quiet_want; apply quiet_value; (· (intro w' hw; have hB := (HS.out _).1 hw; have hbl := hB.lt; have p1 : w'.cell? ⟨n, 1, none⟩ = some (.int .i64 (G.from_ : Nat)) := hB.cell 1; go_simp; try rfl)); simp only [Act.put, List.setIfInBounds_toArray, List.set_cons_succ, List.set_cons_zero]; go_big_quiet_on
  refine wpQuiet_nil ?_
  refine wpSteps_head ?_
  go_big_quiet_want; go_big_quiet_op; go_big_quiet_on
  refine wpQuiet_nil ?_
  refine wpSteps_head ?_
  go_big_quiet_want; apply quiet_value; (· (intro w' hw; go_simp; try rfl)); simp only [Act.put, List.setIfInBounds_toArray, List.set_cons_succ, List.set_cons_zero]; go_big_quiet_on
  refine wpQuiet_nil ?_
  refine wpSteps_more ?_
  go_wp2_with fail
  refine (read_any ((G.from_ + m : Nat) : Int) (HD.out.drew) HG.out).mono ?_
  rintro e w5 (⟨hne, _⟩ | ⟨_, X', hX', rfl, rfl⟩)
  · exact absurd HMAY.out hne
  have hXX : X' = X := by
    rw [Int.toNat_natCast, HXD.out] at hX'
    exact (Option.some.inj hX').symm
  rw [hXX]
  clear hX' hXX
  go_wp2_with fail
  refine ThenS.mk ((HS.out _).2 (HBX.out.drew.alloc _)) ?_
  refine wpSteps_head ?_
  go_big_quiet_want; go_big_quiet_op; go_big_quiet_on
  refine wpQuiet_nil ?_
  refine wpSteps_head ?_
  go_big_quiet_want; apply quiet_value; (· (intro w' hw; go_simp; try rfl)); simp only [Act.put, List.setIfInBounds_toArray, List.set_cons_succ, List.set_cons_zero]; go_big_quiet_on
  refine wpQuiet_nil ?_
  refine wpSteps_head ?_
  go_big_quiet_want; apply quiet_value; (· (intro w' hw; go_simp; try rfl)); simp only [Act.put, List.setIfInBounds_toArray, List.set_cons_succ, List.set_cons_zero]; go_big_quiet_on
  refine wpQuiet_nil ?_
  refine wpSteps_head ?_
  go_big_quiet_want; go_big_quiet_op; go_big_quiet_on
  refine wpQuiet_nil ?_
  refine wpSteps_last ?_
  go_upto_region 2 with (fail)

  have HA := Lib.hid (show Box (w.alloc (.cells (bc X).toArray 81)).drew w.heap.size 81 (bc X).toArray from Box.new w 81 _)
  have BB := Lib.hid (show Below w.heap.size w (w.alloc (.cells (bc X).toArray 81)).drew from ((Below.refl w.heap.size w).alloc (Nat.le_refl _) _).drew)
  obtain ⟨g, hg⟩ : ∃ g, g = w.heap.size := ⟨_, rfl⟩
  have HQ := HA.out
  rw [← hg] at HQ ⊢
  refine wp_name (fun W => Box W g 81 (bc X).toArray ∧ Below w.heap.size w W) ⟨HQ, BB.out⟩ ?_
  clear HQ BB HS HA hg
  rintro W5 ⟨hQ, hB⟩
  have HQ := Lib.hid hQ
  have HB := Lib.hid hB
  clear hQ hB
  refine wp_region_below (w0 := W5) (B := W5.heap.size) (by kernel_rfl) (by kernel_rfl) (Below.refl _ _) ?_
  go_big_quiet_want; go_big_quiet_op; go_big_quiet_on
  go_big_quiet_want; apply quiet_value; (· (intro w hw; go_simp; try rfl)); simp only [Act.put, List.setIfInBounds_toArray, List.set_cons_succ, List.set_cons_zero]; go_big_quiet_on
  go_big_quiet_want; go_big_quiet_op; go_big_quiet_on
  go_big_quiet_want; go_big_quiet_op; go_big_quiet_on
  go_big_quiet_want; apply quiet_value; (· (intro w hw; go_simp; try rfl)); simp only [Act.put, List.setIfInBounds_toArray, List.set_cons_succ, List.set_cons_zero]; go_big_quiet_on
  go_big_quiet_want; apply quiet_value; (· (intro w hw; go_simp; try rfl)); simp only [Act.put, List.setIfInBounds_toArray, List.set_cons_succ, List.set_cons_zero]; go_big_quiet_on
  go_big_quiet_want; apply quiet_value; (· (intro w hw; have hX := HQ.out.below hw HQ.out.lt; refine load_box_val 93 (.tmp 29) ?_ g 0 ?_ hX (bc (X.take 8)) (by rw [List.toList_toArray]; exact bc_take8 hX64) Try.underlying93 rfl (by rw [bc_len, List.length_take, hX64]; kernel_rfl) <;> rfl)); simp only [Act.put, List.setIfInBounds_toArray, List.set_cons_succ, List.set_cons_zero]; go_big_quiet_on
  go_big_quiet_want; go_big_quiet_op; go_big_quiet_on
  go_big_quiet_want; apply quiet_value; (· (intro w hw; go_simp; try rfl)); simp only [Act.put, List.setIfInBounds_toArray, List.set_cons_succ, List.set_cons_zero]; go_big_quiet_on
  go_big_quiet_want; apply quiet_value; (· (intro w hw; go_simp; try rfl)); simp only [Act.put, List.setIfInBounds_toArray, List.set_cons_succ, List.set_cons_zero]; go_big_quiet_on
  go_big_quiet_want; apply quiet_value; (· (intro w hw; have hX := HQ.out.below hw HQ.out.lt; refine load_box_val 93 (.tmp 33) ?_ g 56 ?_ hX (bc (X.drop 56)) (by rw [List.toList_toArray]; exact bc_drop8 hX64) Try.underlying93 rfl (by rw [bc_len, List.length_drop, hX64]; kernel_rfl) <;> rfl)); simp only [Act.put, List.setIfInBounds_toArray, List.set_cons_succ, List.set_cons_zero]; go_big_quiet_on
  go_big_quiet_want; apply quiet_value (v := .bool false); (· (intro w hw; have e1 := (eq93 (X.take 8) (X.drop 56) (by rw [List.length_take, hX64]; rfl) (by rw [List.length_drop, hX64]) w).trans (by rw [HNE.out]); have e2 := gd93 (bc (X.take 8)).toArray (bc (X.drop 56)).toArray w; go_simp; try rfl)); simp only [Act.put, List.setIfInBounds_toArray, List.set_cons_succ, List.set_cons_zero]; go_big_quiet_on
  go_big_quiet_want; apply quiet_value; (· (intro w hw; go_simp; try rfl)); simp only [Act.put, List.setIfInBounds_toArray, List.set_cons_succ, List.set_cons_zero]; go_big_quiet_on
  refine wpQuiet_nil ?_
  intro w6 b6
  have HQ6 := Lib.hid (HQ.out.below b6 HQ.out.lt)
  have HB6 := Lib.hid (HB.out.trans (b6.mono HB.out.size))
  clear b6 HQ HB

  go_upto_region 4 with (fail)
  obtain ⟨hb, hhb⟩ : ∃ hb, hb = (X.getD 8 0).toNat := ⟨_, rfl⟩
  obtain ⟨F, hF⟩ : ∃ F, F = num ((X.drop 9).take 4) := ⟨_, rfl⟩
  have hb2 : hb < 256 := by rw [hhb]; exact UInt8.toNat_lt _
  have hF2 : F < 4294967296 := by rw [hF]; exact num_lt4 _ (by rw [List.length_take, List.length_drop, hX64]; rfl)
  have H8 := Lib.hid (show (bc X).toArray[8]? = some (.int .u8 (hb : Nat)) by
    rw [hhb]
    simp [bc, List.getD_eq_getElem?_getD, List.getElem?_eq_getElem (show 8 < X.length by omega)])
  have hwb : IntKind.i64.wrap (hb : Int) = (hb : Int) := by rw [IntKind.wrap_i64]; omega
  have hwF : IntKind.i64.wrap (F : Int) = (F : Int) := by rw [IntKind.wrap_i64]; omega
  have HFE := Lib.hid hF
  have HHB := Lib.hid hhb
  have HQ := HQ6
  clear hF hhb HQ6
  refine wp_region_below (w0 := w6) (B := w6.heap.size) (by kernel_rfl) (by kernel_rfl) (Below.refl _ _) ?_
  go_big_quiet_want; go_big_quiet_op; go_big_quiet_on
  go_big_quiet_want; apply quiet_value (v := .slice (some ⟨g, 0, none⟩) 8 64); (· (intro w hw; go_simp; try rfl)); simp only [Act.put, List.setIfInBounds_toArray, List.set_cons_succ, List.set_cons_zero]; go_big_quiet_on
  go_big_quiet_want; apply quiet_call (f := 48) (v := .int .u64 (num (X.take 8) : Nat)); (· (intro w hw; go_simp; try rfl)); (· (intro w1 b1; exact in_class (take_any _ 8 64 (X.take 8) (bys_box (HQ.out.below b1 HQ.out.lt) hX64 0 8 (by omega))) b1)); simp only [Act.put, List.setIfInBounds_toArray, List.set_cons_succ, List.set_cons_zero]; go_big_quiet_on
  go_big_quiet_want; go_big_quiet_op; go_big_quiet_on
  go_big_quiet_want; apply quiet_value; (· (intro w hw; have hX := HQ.out.below hw HQ.out.lt; have hxl := hX.lt; go_simp; try rfl)); simp only [Act.put, List.setIfInBounds_toArray, List.set_cons_succ, List.set_cons_zero]; go_big_quiet_on
  go_big_quiet_want; apply quiet_value (v := .int .u8 (hb : Nat)); (· (intro w hw; have hX := HQ.out.below hw HQ.out.lt; have hxl := hX.lt; have x8 : w.cell? ⟨g, 8, none⟩ = some (.int .u8 (hb : Nat)) := (hX.cell 8).trans H8.out; go_simp; try rfl)); simp only [Act.put, List.setIfInBounds_toArray, List.set_cons_succ, List.set_cons_zero]; go_big_quiet_on
  go_big_quiet_want; apply quiet_value (v := .int .i64 (hb : Nat)); (· (intro w hw; go_simp; try rfl)); simp only [Act.put, List.setIfInBounds_toArray, List.set_cons_succ, List.set_cons_zero]; go_big_quiet_on
  go_big_quiet_want; go_big_quiet_op; go_big_quiet_on
  go_big_quiet_want; apply quiet_value (v := .slice (some ⟨g, 9, none⟩) 4 55); (· (intro w hw; go_simp; try rfl)); simp only [Act.put, List.setIfInBounds_toArray, List.set_cons_succ, List.set_cons_zero]; go_big_quiet_on
  go_big_quiet_want; apply quiet_call (f := 48) (v := .int .u64 (F : Nat)); (· (intro w hw; go_simp; try rfl)); (· (intro w1 b1; have hT := take_any _ 4 55 ((X.drop 9).take 4) (bys_box (HQ.out.below b1 HQ.out.lt) hX64 9 4 (by omega)); rw [← HFE.out] at hT; exact in_class hT b1)); simp only [Act.put, List.setIfInBounds_toArray, List.set_cons_succ, List.set_cons_zero]; go_big_quiet_on
  go_big_quiet_want; apply quiet_value (v := .int .i64 (F : Nat)); (· (intro w hw; go_simp; try rfl)); simp only [Act.put, List.setIfInBounds_toArray, List.set_cons_succ, List.set_cons_zero]; go_big_quiet_on
  go_big_quiet_want; go_big_quiet_op; go_big_quiet_on
  go_big_quiet_want; go_big_quiet_op; go_big_quiet_on
  go_big_quiet_want; go_big_quiet_op; go_big_quiet_on
  refine wpQuiet_nil ?_
  intro w7 b7
  have HB7 := Lib.hid (HB6.out.trans (b7.mono HB6.out.size))
  clear b7 HB6 HQ

  have C := Lib.hid (bytes_any (HLD.out.bel HB7.out) HLF.out)
  obtain ⟨S, hS⟩ : ∃ S, S = G.size * 64 := ⟨_, rfl⟩
  rw [← hS] at C
  have HSE := Lib.hid hS
  clear hwb hwF hS
  by_cases hh : hb < 2
  · have hh1 : decide ((hb : Int) < 2) = true := decide_eq_true (by omega)
    go_wp2_with fail
    refine C.out.mono ?_
    rintro e w8 ⟨rfl, rfl⟩
    go_wp2_with fail
    refine ret_four Try.results40 rfl rfl rfl rfl rfl ⟨?_, HB7.out⟩
    rw [← HHB.out, ← HFE.out, ← HSE.out, decide_eq_true hh]
    simp
  · have hh1 : decide ((hb : Int) < 2) = false := decide_eq_false (by omega)
    go_wp2_with fail
    refine ret_four Try.results40 rfl rfl rfl rfl rfl ⟨?_, HB7.out⟩
    rw [← HHB.out, ← HFE.out, ← HSE.out, decide_eq_false hh]
    rfl
theorem look_any (m : Nat) (X : Sec) (h : Ldg w base n nd V VD D G) (hf : Fits G D) (hg : Good D) (hd : D.dead = false) (hX : D.now[G.from_ + m]? = some X) (hm : m < 2) :
    Calls Try.prog 40 #[.pointer (some ⟨n, 0, none⟩), .int .i64 m] w fun e w' => e = .returned (.tuple #[.int .u64 ((lookR G X).1 : Nat), .int .i64 ((lookR G X).2.1 : Nat), .int .i64 ((lookR G X).2.2.1 : Nat), .bool (lookR G X).2.2.2]) ∧ Below w.heap.size w w' := by
  by_cases hne : X.take 8 = X.drop 56
  · have e : lookR G X = (num (X.take 8), (X.getD 8 0).toNat, num ((X.drop 9).take 4), decide ((X.getD 8 0).toNat < 2) && decide (num ((X.drop 9).take 4) ≤ G.size * 64)) := by rw [lookR, if_pos hne]
    rw [e]
    exact look_yes m X h hf hg hd hX hm hne
  · have e : lookR G X = (0, 0, 0, false) := by rw [lookR, if_neg hne]
    rw [e]
    exact look_no m X h hf hg hd hX hm hne
end Go.Proofs.Ytdiboicllolcnaa
