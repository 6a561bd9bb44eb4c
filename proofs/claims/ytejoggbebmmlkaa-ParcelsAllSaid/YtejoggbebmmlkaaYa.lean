/- The walk of ParcelsAll. Conditions: none. -/
import Derived.Test.YtejoggbebmmlkaaWy
import Derived.Test.YtejoggbebmmlkaaWq
namespace Go.Proofs.Ytejoggbebmmlkaa
open Go.RowKit Go.ChangeShapes Go.WideShapes Go.ChangeAt
set_option linter.unusedVariables false
set_option linter.unusedSimpArgs false

/-- a net and the document's net, with blocks of their own. -/
structure Both (w : World) (base n m : Nat) (v : Value) (ps : List Pk) (M : List (Int × Int)) (l a : Value) (A : List (Int × Int)) : Prop where
  net : Net w base n m v ps M
  doc : RNet w base l a ps A
  dis : ∀ k, l.ownBlock = some k ∨ a.ownBlock = some k → v.ownBlock ≠ some k
  same : Same M A
variable {w w' : World} {base n m : Nat} {v l a : Value} {ps : List Pk} {M A : List (Int × Int)}
theorem Both.below (h : Both w base n m v ps M l a A) (hb : Below w.heap.size w w') : Both w' base n m v ps M l a A := ⟨h.net.below hb (Nat.le_refl _), h.doc.below hb (Nat.le_refl _), h.dis, h.same⟩
theorem Both.apart (h : Both w base n m v ps M l a A) (k : Nat) (hk : l.ownBlock = some k ∨ a.ownBlock = some k) : ¬ Of n m v k := by
  rintro (rfl | rfl | hv)
  · rcases hk with h1 | h1
    · exact own_box_ne h.doc.row h.net.box (by decide) h1
    · exact own_box_ne h.doc.prs h.net.box (by decide) h1
  · obtain ⟨es, c, hm, _⟩ := h.net.map
    rcases hk with h1 | h1
    · exact own_map_ne h.doc.row hm h1
    · exact own_map_ne h.doc.prs hm h1
  · exact h.dis k hk hv
/-- behind the document's call. -/
theorem dis_doc {l' a' : Value} (h : Both w base n m v ps M l a A) (ht : RTo w w' l a l' a') : ∀ k, l'.ownBlock = some k ∨ a'.ownBlock = some k → v.ownBlock ≠ some k := by
  intro k hk hv
  have hlt := h.net.of_lt k (.inr (.inr hv))
  rcases hk with h1 | h1
  · rcases ht.fst k h1 with h2 | h2
    · exact h.dis k (.inl h2) hv
    · omega
  · rcases ht.snd k h1 with h2 | h2
    · exact h.dis k (.inr h2) hv
    · omega
/-- behind the net's call. -/
theorem dis_net {v' l' a' : Value} {ps' : List Pk} {A' : List (Int × Int)} (hr : RNet w base l' a' ps' A') (hd : ∀ k, l'.ownBlock = some k ∨ a'.ownBlock = some k → v.ownBlock ≠ some k) (hg : Goes w w' n m v v') : ∀ k, l'.ownBlock = some k ∨ a'.ownBlock = some k → v'.ownBlock ≠ some k := by
  intro k hk hv
  rcases hg.lies k hv with h1 | h1
  · exact hd k hk h1
  · rcases hk with h2 | h2
    · have := own_lt hr.row k h2; omega
    · have := own_lt hr.prs k h2; omega
theorem RNet.goes {v v' : Value} {qs : List Pk} (hr : RNet w base l a ps A) (hn : Net w base n m v qs M) (hd : ∀ k, l.ownBlock = some k ∨ a.ownBlock = some k → v.ownBlock ≠ some k) (hg : Goes w w' n m v v') : RNet w' base l a ps A :=
  hr.stays fun k hk ho => hg.touch.block k hk (by
    rintro (rfl | rfl | hv)
    · rcases ho with h1 | h1
      · exact own_box_ne hr.row hn.box (by decide) h1
      · exact own_box_ne hr.prs hn.box (by decide) h1
    · obtain ⟨es, c, hm, _⟩ := hn.map
      rcases ho with h1 | h1
      · exact own_map_ne hr.row hm h1
      · exact own_map_ne hr.prs hm h1
    · exact hd k ho hv)
theorem Net.no45 {b : Nat} {cs : Array Value} (h : Net w base n m v ps M) (hb : Box w b 45 cs) : ¬ Of n m v b := by
  rintro (rfl | rfl | hv)
  · have h1 := h.box; unfold Box at h1 hb; rw [h1] at hb; injection hb with hb; injection hb with _ h2; exact absurd h2 (by decide)
  · obtain ⟨es, c, hm, _⟩ := h.map; exact box_map_ne hb hm rfl
  · exact own_box_ne h.row hb (by decide) hv
theorem Net.no27 {b : Nat} (h : Net w base n m v ps M) (hb : w.heap.size ≤ b) : ¬ Of n m v b := fun ho => by have := h.of_lt b ho; omega

set_option maxRecDepth 100000 in
set_option maxHeartbeats 4000000 in
theorem all_core (W : World) (a0 : Option Addr) (len cap : Nat) (os : List Op6) (hP : OpsAt W a0 len os) (hm : len ≤ maxLen) :
    Calls Try.prog 7 #[.slice a0 len cap] W fun e W' => e = .returned (.bool true) ∧ Below W.heap.size W W' := by
  unfold maxLen at hm
  have C0 := Lib.hid (new_net W)
  have HP := Lib.hid hP
  clear hP
  by_cases hbig : len > 200
  · go_enter Try.func7, Try.ntmps7
    go_wp2_with fail
    refine C0.out.mono ?_
    rintro e w1 ⟨rfl, hN1, bel1⟩
    go_wp2_with fail
    refine (alive_any _).mono ?_
    rintro e w2 ⟨rfl, bel2⟩
    go_wp2
    go_ret
    exact ⟨rfl, bel1.trans (bel2.mono bel1.size)⟩
  · go_enter Try.func7, Try.ntmps7
    go_wp2_with fail
    refine C0.out.mono ?_
    rintro e w1 ⟨rfl, hN1, bel1⟩
    have HB1 := Lib.hid (bel1.alloc bel1.size (.cells #[.slice none 0 0, .slice none 0 0] 45))
    have HX1 := Lib.hid (Box.new w1 45 #[.slice none 0 0, .slice none 0 0])
    have HT1 := Lib.hid (show Both (w1.alloc (.cells #[.slice none 0 0, .slice none 0 0] 45)) W.heap.size (W.heap.size + 1) W.heap.size (.slice none 0 0) [] [] (.slice none 0 0) (.slice none 0 0) [] from ⟨hN1.alloc _, ⟨World.ownsRow_nil _ _ _ _, World.ownsRow_nil _ _ _ _⟩, (fun k hk => by rcases hk with h | h <;> cases h), (fun x => by simp)⟩)
    have hl1 := hN1.box.lt
    have hr0 : W.heap.size ≤ w1.heap.size := bel1.size
    obtain ⟨r0, hr0e⟩ : ∃ r0, r0 = w1.heap.size := ⟨_, rfl⟩
    clear hN1 bel1 C0
    go_wp2
    rw [← hr0e] at HX1 hr0 ⊢
    clear hr0e
    go_loopw [27] (fun i wr => ∃ (k : Nat) (v l a : Value) (ps : List Pk) (M A : List (Int × Int)), k ≤ len ∧ i = .int .i64 k ∧ ps.length ≤ 2000 ∧ A.length ≤ k ∧ Both wr W.heap.size (W.heap.size + 1) W.heap.size v ps M l a A ∧ Box wr r0 45 #[l, a] ∧ Below W.heap.size W wr) (fun i _ => len - (intOf i).toNat)
    case atStart => exact ⟨0, _, _, _, [], [], [], Nat.zero_le _, rfl, by simp, by simp, HT1.out, HX1.out, HB1.out⟩
    case round =>
      clear HT1 HX1 HB1
      obtain ⟨k, v, l, a, ps, M, A, hk, rfl, hps, hA, hT, hX, hbel⟩ := hrel
      have HT := Lib.hid hT
      have HX := Lib.hid hX
      have HB := Lib.hid hbel
      have x0 : wr.cell? ⟨r0, 0, none⟩ = some l := hX.cell 0
      have x1 : wr.cell? ⟨r0, 1, none⟩ = some a := hX.cell 1
      have hrr := hX.lt
      obtain ⟨ad, c, rfl, _⟩ := own_shape hT.doc.row
      obtain ⟨aa, ca, rfl, _⟩ := own_shape hT.doc.prs
      by_cases hlt : k < len
      · obtain ⟨bb, off, o, rfl, ho, hbb, d0, d1, d2, d3, d4, d5⟩ := HP.out.get k hlt
        rw [← hbel.cell (p := ⟨bb, _, none⟩) hbb] at d0 d1 d2 d3 d4 d5
        have hbr : bb < wr.heap.size := Nat.lt_of_lt_of_le hbb hbel.size
        have C1 := Lib.hid (rdo_any o (hT.doc.alloc (.cells #[.int .i64 o.kd, .int .i64 o.k, .int .i64 o.j, .int .i64 o.p.1, .int .i64 o.p.2.1, .string o.p.2.2] 37)) (Nat.le_trans hbel.size (by simp)) hps (by omega))
        have HO := Lib.hid (Box.new wr 37 #[.int .i64 o.kd, .int .i64 o.k, .int .i64 o.j, .int .i64 o.p.1, .int .i64 o.p.2.1, .string o.p.2.2])
        have hL := step_len (M := M) o hps
        obtain ⟨s1, s2, s3, s4⟩ := step_same (ps := ps) o hT.same
        have HTA := Lib.hid ((show Both (wr.alloc (.cells #[.int .i64 o.kd, .int .i64 o.k, .int .i64 o.j, .int .i64 o.p.1, .int .i64 o.p.2.1, .string o.p.2.2] 37)) W.heap.size (W.heap.size + 1) W.heap.size v ps M _ _ A from ⟨hT.net.alloc _, hT.doc.alloc _, hT.dis, hT.same⟩))
        have HXA := Lib.hid (hX.alloc (.cells #[.int .i64 o.kd, .int .i64 o.k, .int .i64 o.j, .int .i64 o.p.1, .int .i64 o.p.2.1, .string o.p.2.2] 37))
        have HBA := Lib.hid (hbel.alloc hbel.size (.cells #[.int .i64 o.kd, .int .i64 o.k, .int .i64 o.j, .int .i64 o.p.1, .int .i64 o.p.2.1, .string o.p.2.2] 37))
        obtain ⟨M', hM'⟩ : ∃ M', M' = (stepP o ps M).2.2 := ⟨_, rfl⟩
        obtain ⟨A', hA'⟩ : ∃ A', A' = (stepR o ps A).2.2 := ⟨_, rfl⟩
        obtain ⟨ps', hps'⟩ : ∃ ps', ps' = (stepR o ps A).2.1 := ⟨_, rfl⟩
        obtain ⟨p, hp⟩ : ∃ p, p = (stepR o ps A).1.1 := ⟨_, rfl⟩
        obtain ⟨q, hq⟩ : ∃ q, q = (stepR o ps A).1.2 := ⟨_, rfl⟩
        have CN := Lib.hid (fun (w2 : World) (h : Net w2 W.heap.size (W.heap.size + 1) W.heap.size v ps M) (hb : W.heap.size ≤ w2.heap.size) => (show Calls Try.prog 15 #[.pointer (some ⟨W.heap.size + 1, 0, none⟩), .agg #[.int .i64 o.kd, .int .i64 o.k, .int .i64 o.j, .int .i64 o.p.1, .int .i64 o.p.2.1, .string o.p.2.2]] w2 fun e w' => e = .returned (.tuple #[.agg #[.int .i64 p.1, .int .i64 p.2.1, .string p.2.2], .bool q]) ∧ ∃ v', Net w' W.heap.size (W.heap.size + 1) W.heap.size v' ps' M' ∧ Goes w2 w' (W.heap.size + 1) W.heap.size v v' from by
          have := does_any o h hb hps
          rw [s1, s2, ← hM', ← hps', ← hp, ← hq] at this
          exact this))
        rw [← hps', ← hA', ← hp, ← hq] at C1
        rw [s2, ← hps'] at hL
        rw [← hM', ← hA'] at s3
        rw [← hA'] at s4
        have HSM := Lib.hid s3
        unfold ov pv rv at C1
        clear hT hX hbel ho s1 s2 s3 hM' hA' hps' hp hq
        go_wp2_with fail
        refine C1.out.mono ?_
        rintro e w2 ⟨l2, a2, rfl, hR2, ht2⟩
        obtain ⟨ad2, c2, rfl, _⟩ := own_shape hR2.row
        obtain ⟨aa2, ca2, rfl, _⟩ := own_shape hR2.prs
        have hd2 := dis_doc HTA.out ht2
        have HN2 := Lib.hid (HTA.out.net.below ht2.below (Nat.le_refl _))
        have HX2 := Lib.hid (HXA.out.below ht2.below HXA.out.lt)
        have HO2 := Lib.hid (HO.out.below ht2.below HO.out.lt)
        have HB2 := Lib.hid (HBA.out.trans (ht2.below.mono HBA.out.size))
        have HR2 := Lib.hid hR2
        have HD2 := Lib.hid hd2
        have y0 : w2.cell? ⟨r0, 0, none⟩ = some (.slice ad ps.length c) := HX2.out.cell 0
        have y1 : w2.cell? ⟨r0, 1, none⟩ = some (.slice aa A.length ca) := HX2.out.cell 1
        have f0 := HX2.out.frozen 0
        have f1 := HX2.out.frozen 1
        have hw2 := HX2.out.lt
        have o0 : w2.cell? ⟨wr.heap.size, 0, none⟩ = some (.int .i64 o.kd) := HO2.out.cell 0
        have o1 : w2.cell? ⟨wr.heap.size, 1, none⟩ = some (.int .i64 o.k) := HO2.out.cell 1
        have o2 : w2.cell? ⟨wr.heap.size, 2, none⟩ = some (.int .i64 o.j) := HO2.out.cell 2
        have o3 : w2.cell? ⟨wr.heap.size, 3, none⟩ = some (.int .i64 o.p.1) := HO2.out.cell 3
        have o4 : w2.cell? ⟨wr.heap.size, 4, none⟩ = some (.int .i64 o.p.2.1) := HO2.out.cell 4
        have o5 : w2.cell? ⟨wr.heap.size, 5, none⟩ = some (.string o.p.2.2) := HO2.out.cell 5
        have hw2' := HO2.out.lt
        have hne : wr.heap.size ≠ r0 := by omega
        clear hR2 ht2 hd2 C1 d0 d1 d2 d3 d4 d5 x0 x1
        go_wp2_with fail
        have hss : ((w2.setCell ⟨r0, 0, none⟩ (.slice ad2 ps'.length c2)).setCell ⟨r0, 1, none⟩ (.slice aa2 A'.length ca2)).heap.size = w2.heap.size := by simp
        have HN3 := Lib.hid ((((HN2.out.setCell (p := ⟨r0, 0, none⟩) (HN2.out.no45 HX2.out) (.slice ad2 ps'.length c2)).setCell (p := ⟨r0, 1, none⟩) (HN2.out.no45 HX2.out) (.slice aa2 A'.length ca2)).alloc (.cells #[.slice ad2 ps'.length c2, .slice aa2 A'.length ca2] 45)).alloc (.cells #[.int .i64 p.1, .int .i64 p.2.1, .string p.2.2] 27))
        have HX3 := Lib.hid (show Box ((((w2.setCell ⟨r0, 0, none⟩ (.slice ad2 ps'.length c2)).setCell ⟨r0, 1, none⟩ (.slice aa2 A'.length ca2)).alloc (.cells #[.slice ad2 ps'.length c2, .slice aa2 A'.length ca2] 45)).alloc (.cells #[.int .i64 p.1, .int .i64 p.2.1, .string p.2.2] 27)) r0 45 #[.slice ad2 ps'.length c2, .slice aa2 A'.length ca2] from (((HX2.out.set 0 _).set 1 _).alloc _).alloc _)
        have HR3 := Lib.hid (((HR2.out.stays (w' := (w2.setCell ⟨r0, 0, none⟩ (.slice ad2 ps'.length c2)).setCell ⟨r0, 1, none⟩ (.slice aa2 A'.length ca2)) (fun k hk ho => by
          have hkr : k ≠ r0 := by
            rintro rfl
            rcases ho with h1 | h1
            · exact own_box_ne HR2.out.row HX2.out (by decide) h1
            · exact own_box_ne HR2.out.prs HX2.out (by decide) h1
          exact (Below.heap_setCell _ _ _ k hkr).trans (Below.heap_setCell _ _ _ k hkr))).alloc (.cells #[.slice ad2 ps'.length c2, .slice aa2 A'.length ca2] 45)).alloc (.cells #[.int .i64 p.1, .int .i64 p.2.1, .string p.2.2] 27))
        have hq3 := Box.new (((w2.setCell ⟨r0, 0, none⟩ (.slice ad2 ps'.length c2)).setCell ⟨r0, 1, none⟩ (.slice aa2 A'.length ca2)).alloc (.cells #[.slice ad2 ps'.length c2, .slice aa2 A'.length ca2] 45)) 27 #[.int .i64 p.1, .int .i64 p.2.1, .string p.2.2]
        rw [World.size_alloc, hss] at hq3
        have HQ3 := Lib.hid hq3
        have HB3 := Lib.hid ((((HB2.out.setCell (p := ⟨r0, 0, none⟩) hr0 (.slice ad2 ps'.length c2)).setCell (p := ⟨r0, 1, none⟩) hr0 (.slice aa2 A'.length ca2)).alloc (by rw [hss]; exact HB2.out.size) (.cells #[.slice ad2 ps'.length c2, .slice aa2 A'.length ca2] 45)).alloc (by rw [World.size_alloc, hss]; have := HB2.out.size; omega) (.cells #[.int .i64 p.1, .int .i64 p.2.1, .string p.2.2] 27))
        generalize ((((w2.setCell ⟨r0, 0, none⟩ (.slice ad2 ps'.length c2)).setCell ⟨r0, 1, none⟩ (.slice aa2 A'.length ca2)).alloc (.cells #[.slice ad2 ps'.length c2, .slice aa2 A'.length ca2] 45)).alloc (.cells #[.int .i64 p.1, .int .i64 p.2.1, .string p.2.2] 27)) = w3 at HN3 HX3 HR3 HQ3 HB3 ⊢
        clear hss hq3 y0 y1 f0 f1 o0 o1 o2 o3 o4 o5 HX2 HR2
        refine (CN.out w3 HN3.out HB3.out.size).mono ?_
        rintro e w4 ⟨rfl, v4, hN4, g4⟩
        have HX4 := Lib.hid (HX3.out.touch g4.touch (HN3.out.no45 HX3.out))
        have HQ4 := Lib.hid (HQ3.out.touch g4.touch (HN2.out.no27 (by omega)))
        have HT4 := Lib.hid (show Both w4 W.heap.size (W.heap.size + 1) W.heap.size v4 ps' M' _ _ A' from ⟨hN4, RNet.goes HR3.out HN3.out HD2.out g4, dis_net HR3.out HD2.out g4, HSM.out⟩)
        have HB4 := Lib.hid (g4.below HB3.out (Nat.le_refl _) HN3.out.of_ge)
        clear HX3 HQ3 HR3 HN3 HB3 hN4 g4 HN2 HB2 HO2 HD2 HSM CN HTA HXA HBA HO
        have HX5 := Lib.hid (HX4.out.alloc (.cells #[.int .i64 p.1, .int .i64 p.2.1, .string p.2.2] 27))
        have HQ5 := Lib.hid (HQ4.out.alloc (.cells #[.int .i64 p.1, .int .i64 p.2.1, .string p.2.2] 27))
        have HP5 := Lib.hid (Box.new w4 27 #[.int .i64 p.1, .int .i64 p.2.1, .string p.2.2])
        have HT5 := Lib.hid (HT4.out.below ((Below.refl _ _).alloc (Nat.le_refl _) (.cells #[.int .i64 p.1, .int .i64 p.2.1, .string p.2.2] 27)))
        have HB5 := Lib.hid (HB4.out.alloc HB4.out.size (.cells #[.int .i64 p.1, .int .i64 p.2.1, .string p.2.2] 27))
        go_wp2
        generalize w4.alloc (.cells #[.int .i64 p.1, .int .i64 p.2.1, .string p.2.2] 27) = w5 at HX5 HQ5 HP5 HT5 HB5 ⊢
        refine wp_region_below (B := w5.heap.size) (w0 := w5) (by kernel_rfl) (by kernel_rfl) (Below.refl _ _) ?_
        go_big_quiet_want; apply quiet_value; (· (intro w' hw; have c0 : w'.cell? ⟨w4.heap.size, 0, none⟩ = some (.int .i64 p.1) := (HP5.out.below hw HP5.out.lt).cell 0; have c1 : w'.cell? ⟨w4.heap.size, 1, none⟩ = some (.int .i64 p.2.1) := (HP5.out.below hw HP5.out.lt).cell 1; have c2 : w'.cell? ⟨w4.heap.size, 2, none⟩ = some (.string p.2.2) := (HP5.out.below hw HP5.out.lt).cell 2; go_simp; try rfl)); simp only [Act.put, List.setIfInBounds_toArray, List.set_cons_succ, List.set_cons_zero]; go_big_quiet_on
        go_big_quiet_want; apply quiet_value; (· (intro w' hw; have e0 : w'.cell? ⟨w2.heap.size + 1, 0, none⟩ = some (.int .i64 p.1) := (HQ5.out.below hw HQ5.out.lt).cell 0; have e1 : w'.cell? ⟨w2.heap.size + 1, 1, none⟩ = some (.int .i64 p.2.1) := (HQ5.out.below hw HQ5.out.lt).cell 1; have e2 : w'.cell? ⟨w2.heap.size + 1, 2, none⟩ = some (.string p.2.2) := (HQ5.out.below hw HQ5.out.lt).cell 2; go_simp; try rfl)); simp only [Act.put, List.setIfInBounds_toArray, List.set_cons_succ, List.set_cons_zero]; go_big_quiet_on
        go_big_quiet_want; apply quiet_value; (· (intro w' hw; go_simp; try rfl)); simp only [Act.put, List.setIfInBounds_toArray, List.set_cons_succ, List.set_cons_zero]; go_big_quiet_on
        go_big_quiet_want; go_big_quiet_op; go_big_quiet_on
        go_big_quiet_want; go_big_quiet_op; go_big_quiet_on
        go_big_quiet_want; go_big_quiet_op; go_big_quiet_on
        go_big_quiet_want; apply quiet_value; (· (intro w' hw; go_simp; try rfl)); simp only [Act.put, List.setIfInBounds_toArray, List.set_cons_succ, List.set_cons_zero]; go_big_quiet_on
        go_big_quiet_want; apply quiet_value; (· (intro w' hw; go_simp; try rfl)); simp only [Act.put, List.setIfInBounds_toArray, List.set_cons_succ, List.set_cons_zero]; go_big_quiet_on
        go_big_quiet_want; go_big_quiet_op; go_big_quiet_on
        go_big_quiet_want; go_big_quiet_op; go_big_quiet_on
        go_big_quiet_want; apply quiet_call (f := 12); (· (intro w hw; go_simp; try rfl)); (· (exact fun w' hw => in_class (len_any (HT5.out.below hw).net) hw)); simp only [Act.put, List.setIfInBounds_toArray, List.set_cons_succ, List.set_cons_zero]; go_big_quiet_on
        go_big_quiet_want; apply quiet_value; (· (intro w' hw; go_simp; try rfl)); simp only [Act.put, List.setIfInBounds_toArray, List.set_cons_succ, List.set_cons_zero]; go_big_quiet_on
        go_big_quiet_want; apply quiet_value; (· (intro w' hw; have x0 : w'.cell? ⟨r0, 0, none⟩ = some (Value.slice ad2 ps'.length c2) := (HX5.out.below hw HX5.out.lt).cell 0; have x1 : w'.cell? ⟨r0, 1, none⟩ = some (Value.slice aa2 A'.length ca2) := (HX5.out.below hw HX5.out.lt).cell 1; go_simp; try rfl)); simp only [Act.put, List.setIfInBounds_toArray, List.set_cons_succ, List.set_cons_zero]; go_big_quiet_on
        go_big_quiet_want; apply quiet_value; (· (intro w' hw; go_simp; try rfl)); simp only [Act.put, List.setIfInBounds_toArray, List.set_cons_succ, List.set_cons_zero]; go_big_quiet_on
        go_big_quiet_want; apply quiet_value; (· (intro w' hw; go_simp; try rfl)); simp only [Act.put, List.setIfInBounds_toArray, List.set_cons_succ, List.set_cons_zero]; go_big_quiet_on
        go_big_quiet_want; apply quiet_value; (· (intro w' hw; go_simp; try rfl)); simp only [Act.put, List.setIfInBounds_toArray, List.set_cons_succ, List.set_cons_zero]; go_big_quiet_on
        refine wpQuiet_nil ?_
        intro w6 hb6
        have HB6 := Lib.hid (HB5.out.trans (hb6.mono HB5.out.size))
        have HT6 := Lib.hid (HT5.out.below hb6)
        have HX6 := Lib.hid (HX5.out.below hb6 HX5.out.lt)
        clear hb6
        go_wp2
        go_roundw
        case rel => exact ⟨k + 1, _, _, _, ps', M', A', by omega, by go_num, hL, by omega, HT6.out, HX6.out, HB6.out⟩
        case measure => simp [intOf]; omega
      · clear hT hX hbel
        go_wp2_with fail
        refine (alive_any _).mono ?_
        rintro e w2 ⟨rfl, b2⟩
        have C2 := Lib.hid (stands_any (HT.out.below b2).net (HT.out.below b2).doc HT.out.same hps (by omega))
        have HB2 := Lib.hid (HB.out.trans (b2.mono HB.out.size))
        have x0 : w2.cell? ⟨r0, 0, none⟩ = some (.slice ad ps.length c) := (HX.out.below b2 HX.out.lt).cell 0
        have x1 : w2.cell? ⟨r0, 1, none⟩ = some (.slice aa A.length ca) := (HX.out.below b2 HX.out.lt).cell 1
        unfold rv at C2
        clear b2
        go_wp2_with fail
        refine C2.out.mono ?_
        rintro e w3 ⟨rfl, b3⟩
        go_wp2
        go_ret
        exact ⟨rfl, HB2.out.trans (b3.mono HB2.out.size)⟩

theorem parcelsAll_walk {H : Type} {enc : TypeId × Value → H} {base : Nat} {p0 : List MemPlace} (W : World) (v0 : Value) (d0 : DataW H) (hv : Value.okWide Try.prog W .any base 35 v0) (h : DataW.Trod enc Try.prog W 0 (fun _ => true) true 35 v0 d0 p0) (_b : ∀ n ∈ d0.weights Try.prog 35, n ≤ 140737488351232) :
    Calls Try.prog 7 #[v0] W fun e W' => e = .returned (.bool true) ∧ Below W.heap.size W W' := by
  obtain ⟨a, len, cap, os, rfl, hP, h1, h2⟩ := open_ops hv h
  exact all_core W a len cap os hP (Nat.le_trans h1 h2)
end Go.Proofs.Ytejoggbebmmlkaa
