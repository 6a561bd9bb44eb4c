/- The document's net: Double, Take. Conditions: its rows are the call's own. -/
import Derived.Test.YtejoggbebmmlkaaWs
import Derived.Deep.Cut
import Derived.Deep.CutRange
namespace Go.Proofs.Ytejoggbebmmlkaa
open Go.RowKit
set_option linter.unusedVariables false
set_option linter.unusedSimpArgs false
variable {w w' : World} {base : Nat} {l a : Value} {ps : List Pk} {A : List (Int × Int)}

theorem rdouble_no (k : Int) (h : RNet w base l a ps A) (hl : ps.length ≤ 2000) (hno : doubleOk ps k = false) :
    Calls Try.prog 27 #[rv l a, .int .i64 k] w fun e w' => e = .returned (.tuple #[rv l a, .bool false]) ∧ Below w.heap.size w w' := by
  obtain ⟨ad, c, rfl, _⟩ := own_shape h.row
  obtain ⟨aa, ca, rfl, _⟩ := own_shape h.prs
  have HR := Lib.hid h
  have B0 := Lib.hid (((Below.refl w.heap.size w).alloc (Nat.le_refl _) (.cells #[.slice ad ps.length c, .slice aa A.length ca] 45)).alloc (by simp) (.cells #[.slice none 0 0, .slice none 0 0] 45))
  have hX := (Box.new w 45 #[.slice ad ps.length c, .slice aa A.length ca]).alloc (.cells #[.slice none 0 0, .slice none 0 0] 45)
  have hZ := Box.new (w.alloc (.cells #[.slice ad ps.length c, .slice aa A.length ca] 45)) 45 #[.slice none 0 0, .slice none 0 0]
  simp only [World.size_alloc] at hZ
  have HX := Lib.hid hX
  have HZ := Lib.hid hZ
  obtain ⟨p, hp⟩ : ∃ p, (getI ps k).getD zp = p := ⟨_, rfl⟩
  obtain ⟨q, hq⟩ : ∃ q, (getI ps k).isSome = q := ⟨_, rfl⟩
  have HPP := Lib.hid hp
  have HQ := Lib.hid hq
  have HNO := Lib.hid hno
  clear h hX hZ hp hq hno
  unfold rv
  go_enter Try.func27, Try.ntmps27
  go_wp2_with fail
  generalize (w.alloc (.cells #[.slice ad ps.length c, .slice aa A.length ca] 45)).alloc (.cells #[.slice none 0 0, .slice none 0 0] 45) = w0 at HX HZ B0 ⊢
  have CA := Lib.hid (rat_all k (HR.out.below B0.out (Nat.le_refl _)) (by omega))
  unfold rv at CA
  rw [HPP.out, HQ.out] at CA
  unfold pv at CA
  refine CA.out.mono ?_
  rintro e w1 ⟨rfl, b1⟩
  have HX1 := Lib.hid (HX.out.below b1 HX.out.lt)
  have HZ1 := Lib.hid (HZ.out.below b1 HZ.out.lt)
  have B1 := Lib.hid (B0.out.trans (b1.mono B0.out.size))
  have x0 : w1.cell? ⟨w.heap.size, 0, none⟩ = some (.slice ad ps.length c) := HX1.out.cell 0
  have x1 : w1.cell? ⟨w.heap.size, 1, none⟩ = some (.slice aa A.length ca) := HX1.out.cell 1
  have z0 : w1.cell? ⟨w.heap.size + 1, 0, none⟩ = some (.slice none 0 0) := HZ1.out.cell 0
  have z1 : w1.cell? ⟨w.heap.size + 1, 1, none⟩ = some (.slice none 0 0) := HZ1.out.cell 1
  have f0 := HZ1.out.frozen 0
  have f1 := HZ1.out.frozen 1
  have hw1 := HZ1.out.lt
  have hw0 : w.heap.size < w1.heap.size := HX1.out.lt
  clear b1 CA
  cases q
  · go_wp2
    exact ret_box45 Try.results27 rfl rfl rfl (((HZ1.out.set 0 _).set 1 _).alloc _) ⟨rfl, ((B1.out.setCell (by simp) _).setCell (by simp) _).alloc (by have := B1.out.size; simp; omega) _⟩
  · have hge : (2000 : Int) ≤ (ps.length : Int) := by
      have h1 := HNO.out
      have h2 := HQ.out
      simp only [doubleOk, h2, Bool.true_and, decide_eq_false_iff_not] at h1
      omega
    go_wp2
    exact ret_box45 Try.results27 rfl rfl rfl (((HZ1.out.set 0 _).set 1 _).alloc _) ⟨rfl, ((B1.out.setCell (by simp) _).setCell (by simp) _).alloc (by have := B1.out.size; simp; omega) _⟩

set_option maxRecDepth 100000 in
set_option maxHeartbeats 1000000 in
theorem rdouble_yes (k : Int) (p : Pk) (h : RNet w base l a ps A) (hb : base ≤ w.heap.size) (hg : getI ps k = some p) (hfull : ps.length < 2000) :
    Calls Try.prog 27 #[rv l a, .int .i64 k] w fun e w' => ∃ l', e = .returned (.tuple #[rv l' a, .bool true]) ∧ RNet w' base l' a (ps ++ [p]) A ∧ RTo w w' l a l' a := by
  obtain ⟨ad, c, rfl, _⟩ := own_shape h.row
  obtain ⟨aa, ca, rfl, _⟩ := own_shape h.prs
  have HR := Lib.hid h
  have B0 := Lib.hid (((Below.refl w.heap.size w).alloc (Nat.le_refl _) (.cells #[.slice ad ps.length c, .slice aa A.length ca] 45)).alloc (by simp) (.cells #[.slice none 0 0, .slice none 0 0] 45))
  have hX := (Box.new w 45 #[.slice ad ps.length c, .slice aa A.length ca]).alloc (.cells #[.slice none 0 0, .slice none 0 0] 45)
  have hZ := Box.new (w.alloc (.cells #[.slice ad ps.length c, .slice aa A.length ca] 45)) 45 #[.slice none 0 0, .slice none 0 0]
  simp only [World.size_alloc] at hZ
  have HX := Lib.hid hX
  have HZ := Lib.hid hZ
  have hlt : ¬ (2000 : Int) ≤ (ps.length : Int) := by omega
  have HGE := Lib.hid hg
  clear h hX hZ hg
  unfold rv
  go_enter Try.func27, Try.ntmps27
  go_wp2_with fail
  generalize (w.alloc (.cells #[.slice ad ps.length c, .slice aa A.length ca] 45)).alloc (.cells #[.slice none 0 0, .slice none 0 0] 45) = w0 at HX HZ B0 ⊢
  have CA := Lib.hid (rat_all k (HR.out.below B0.out (Nat.le_refl _)) (by omega))
  unfold rv at CA
  rw [HGE.out] at CA
  simp only [Option.getD_some, Option.isSome_some] at CA
  unfold pv at CA
  refine CA.out.mono ?_
  rintro e w5 ⟨rfl, b5⟩
  have B1 := Lib.hid ((B0.out.trans (b5.mono B0.out.size)).alloc (B0.out.trans (b5.mono B0.out.size)).size (.cells #[.int .i64 p.1, .int .i64 p.2.1, .string p.2.2] 27))
  have HX1 := Lib.hid ((HX.out.below b5 HX.out.lt).alloc (.cells #[.int .i64 p.1, .int .i64 p.2.1, .string p.2.2] 27))
  have HZ1 := Lib.hid ((HZ.out.below b5 HZ.out.lt).alloc (.cells #[.int .i64 p.1, .int .i64 p.2.1, .string p.2.2] 27))
  have HP1 := Lib.hid (Box.new w5 27 #[.int .i64 p.1, .int .i64 p.2.1, .string p.2.2])
  have x0 : w5.cell? ⟨w.heap.size, 0, none⟩ = some (.slice ad ps.length c) := (HX.out.below b5 HX.out.lt).cell 0
  have x1 : w5.cell? ⟨w.heap.size, 1, none⟩ = some (.slice aa A.length ca) := (HX.out.below b5 HX.out.lt).cell 1
  have hw5 := (HX.out.below b5 HX.out.lt).lt
  have hne5 : w.heap.size + 1 < w5.heap.size := (HZ.out.below b5 HZ.out.lt).lt
  clear b5 CA
  go_upto_region 4 with (fail)
  generalize w5.alloc (.cells #[.int .i64 p.1, .int .i64 p.2.1, .string p.2.2] 27) = w1 at HX1 HZ1 HP1 B1 ⊢
  clear x0 x1
  obtain ⟨pb, hpb⟩ : ∃ pb, pb = w5.heap.size := ⟨_, rfl⟩
  rw [← hpb] at HP1 hne5 hw5 ⊢
  have hpl : pb < w1.heap.size := HP1.out.lt
  clear hpb
  have x0 : w1.cell? ⟨w.heap.size, 0, none⟩ = some (.slice ad ps.length c) := HX1.out.cell 0
  have hw1 : w.heap.size < w1.heap.size := HX1.out.lt
  have HR1 := Lib.hid ((HR.out.below B1.out (Nat.le_refl _)).alloc (.cells #[] 27))
  have HO1 := Lib.hid (World.ownsRow_lit (base := w.heap.size) (e := 27) (size := 3) w1 #[] 0 B1.out.size (by decide) rfl)
  have HS1 := Lib.hid (own_src HR1.out.row (cells_one ps))
  obtain ⟨i0, hi, hz0, hz1, hz2⟩ := info_parts row27
  have hz : i0.zero = some zeroPk := hz0
  have HI := Lib.hid hi
  have HZZ := Lib.hid hz
  have HSZ1 := Lib.hid (show w.heap.size ≤ (w1.alloc (.cells #[] 27)).heap.size by simp; omega)
  clear hz0 hi hz
  go_wp2_with (at_builtin; refine wpList_append_at rfl (.tmp 24) (.tmp 26) 22 rfl w.heap.size 27 i0 zeroPk 3 32 Try.underlying22 HI.out HZZ.out hz1 hz2 rfl (by decide) _ _ _ rfl HO1.out _ _ _ _ rfl HS1.out ?c2 ?c3 ?c4 ?_)
  case c2 => unfold maxLen; omega
  case c3 => omega
  case c4 => first | exact HSZ1.out | (have h0 := HSZ1.out; simpa using h0)
  intro v2 w2 own2 g2 at2
  replace own2 := (show w2.ownsRow w.heap.size 27 3 v2 ps.length (cellsOf ps) by simpa using own2)
  obtain ⟨ad2, c2, rfl, hc2⟩ := own_shape own2
  have hn2 : ∀ k, k < w1.heap.size → some k ≠ (Value.slice (some ⟨w1.heap.size, 0, none⟩) 0 0).ownBlock := fun k hk e => (by have h0 : k = w1.heap.size := (by simpa [Value.ownBlock] using e); omega)
  have B2 := Lib.hid ((B1.out.alloc B1.out.size (.cells #[] 27)).grown g2 HSZ1.out (own_ge HO1.out))
  have HX2 := Lib.hid ((HX1.out.alloc (.cells #[] 27)).grown g2 (hn2 _ HX1.out.lt))
  have HZ2 := Lib.hid ((HZ1.out.alloc (.cells #[] 27)).grown g2 (hn2 _ HZ1.out.lt))
  have HP2 := Lib.hid ((HP1.out.alloc (.cells #[] 27)).grown g2 (hn2 _ HP1.out.lt))
  have HO2 := Lib.hid (own2.alloc (.cells #[.int .i64 p.1, .int .i64 p.2.1, .string p.2.2] 27))
  have HSX := Lib.hid (src3 w2 p)
  have p0 : w2.cell? ⟨pb, 0, none⟩ = some (.int .i64 p.1) := HP2.out.cell 0
  have p1 : w2.cell? ⟨pb, 1, none⟩ = some (.int .i64 p.2.1) := HP2.out.cell 1
  have p2 : w2.cell? ⟨pb, 2, none⟩ = some (.string p.2.2) := HP2.out.cell 2
  have HSZ2 := Lib.hid (show w.heap.size ≤ (w2.alloc (.cells #[.int .i64 p.1, .int .i64 p.2.1, .string p.2.2] 27)).heap.size by have := B2.out.size; simp; omega)
  have HOB := Lib.hid (own_base own2 (base' := w1.heap.size) (fun k hk => by
    rcases at2 with e | e
    · rw [e] at hk; have : k = w1.heap.size := by simpa [Value.ownBlock] using hk.symm
      omega
    · rw [e] at hk; have : k = w1.heap.size + 1 := by simpa [Value.ownBlock] using hk.symm
      omega))
  have hsz12 : w1.heap.size ≤ w2.heap.size := by have := g2.size; simp at this; omega
  clear own2 g2 at2 x0
  go_wp2_with (at_builtin; refine wpList_append_at rfl (.tmp 28) (.tmp 30) 22 rfl w.heap.size 27 i0 zeroPk 3 32 Try.underlying22 HI.out HZZ.out hz1 hz2 rfl (by decide) _ _ _ rfl HO2.out _ _ _ _ rfl HSX.out ?c2 ?c3 ?c4 ?_)
  case c2 => unfold maxLen; omega
  case c3 => omega
  case c4 => first | exact HSZ2.out | (have h0 := HSZ2.out; simpa using h0)
  intro v4 w4 own4 g4 at4
  obtain ⟨ad4, c4, rfl, hc4⟩ := own_shape own4
  have hn4 : ∀ k, k < w1.heap.size → some k ≠ (Value.slice ad2 ps.length c2).ownBlock := fun k hk e => by have := own_ge HOB.out k e.symm; omega
  have B4 := Lib.hid ((B2.out.alloc B2.out.size (.cells #[.int .i64 p.1, .int .i64 p.2.1, .string p.2.2] 27)).grown g4 HSZ2.out (own_ge HO2.out))
  have HX4 := Lib.hid ((HX2.out.alloc (.cells #[.int .i64 p.1, .int .i64 p.2.1, .string p.2.2] 27)).grown g4 (hn4 _ HX1.out.lt))
  have HZ4 := Lib.hid ((HZ2.out.alloc (.cells #[.int .i64 p.1, .int .i64 p.2.1, .string p.2.2] 27)).grown g4 (hn4 _ HZ1.out.lt))
  have HO4 := Lib.hid own4
  have y0 : w4.cell? ⟨w.heap.size, 0, none⟩ = some (.slice ad ps.length c) := HX4.out.cell 0
  have y1 : w4.cell? ⟨w.heap.size, 1, none⟩ = some (.slice aa A.length ca) := HX4.out.cell 1
  have z0 : w4.cell? ⟨w.heap.size + 1, 0, none⟩ = some (.slice none 0 0) := HZ4.out.cell 0
  have z1 : w4.cell? ⟨w.heap.size + 1, 1, none⟩ = some (.slice none 0 0) := HZ4.out.cell 1
  have f0 := HX4.out.frozen 0
  have g0 := HZ4.out.frozen 0
  have g1 := HZ4.out.frozen 1
  have HGE : Hid (∀ k, (Value.slice ad4 (ps.length + 1) c4).ownBlock = some k → w1.heap.size ≤ k) := fun k hk => by
    rcases at4 with e | e
    · rw [e] at hk; exact own_ge HOB.out k hk
    · rw [e] at hk; have : k = w2.heap.size + 1 := by simpa [Value.ownBlock] using hk.symm
      omega
  have FIN : Hid (RNet (((w4.setCell ⟨w.heap.size, 0, none⟩ (.slice ad4 (ps.length + 1) c4)).setCell ⟨w.heap.size + 1, 0, none⟩ (.slice ad4 (ps.length + 1) c4)).setCell ⟨w.heap.size + 1, 1, none⟩ (.slice aa A.length ca)) base (.slice ad4 (ps.length + 1) c4) (.slice aa A.length ca) (ps ++ [p]) A ∧
      RTo w (((w4.setCell ⟨w.heap.size, 0, none⟩ (.slice ad4 (ps.length + 1) c4)).setCell ⟨w.heap.size + 1, 0, none⟩ (.slice ad4 (ps.length + 1) c4)).setCell ⟨w.heap.size + 1, 1, none⟩ (.slice aa A.length ca)) (.slice ad ps.length c) (.slice aa A.length ca) (.slice ad4 (ps.length + 1) c4) (.slice aa A.length ca)) := by
    have hB := ((B4.out.setCell (p := ⟨w.heap.size, 0, none⟩) (Nat.le_refl _) (.slice ad4 (ps.length + 1) c4)).setCell (p := ⟨w.heap.size + 1, 0, none⟩) (by show w.heap.size ≤ w.heap.size + 1; omega) (.slice ad4 (ps.length + 1) c4)).setCell (p := ⟨w.heap.size + 1, 1, none⟩) (by show w.heap.size ≤ w.heap.size + 1; omega) (.slice aa A.length ca)
    have hzl := HZ1.out.lt
    have hxl := HX1.out.lt
    refine ⟨⟨?_, (HR.out.below hB (Nat.le_refl _)).prs⟩, ⟨hB, fun k hk => .inr (by have := HGE.out k hk; omega), fun k hk => .inl hk⟩⟩
    rw [cells_snoc, List.length_append]
    refine own_base (own_stays HO4.out (fun k hk => ?_)) (fun k hk => by have := HGE.out k hk; omega)
    have hk2 := HGE.out k hk
    exact (Below.heap_setCell _ _ _ _ (by show k ≠ w.heap.size + 1; omega)).trans ((Below.heap_setCell _ _ _ _ (by show k ≠ w.heap.size + 1; omega)).trans (Below.heap_setCell _ _ _ _ (by show k ≠ w.heap.size; omega)))
  clear at4 own4 g4 hn4

  go_wp2
  exact ret_box45 Try.results27 rfl rfl rfl (((HZ4.out.set_other (p := ⟨w.heap.size, 0, none⟩) (by simp) _).set 0 _).set 1 _) ⟨_, rfl, FIN.out.1, FIN.out.2⟩
end Go.Proofs.Ytejoggbebmmlkaa
