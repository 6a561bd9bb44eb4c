/- The document's net: Send, Double. Conditions: its rows are the call's own. -/
import Derived.Test.YtejoggbebmmlkaaWr
namespace Go.Proofs.Ytejoggbebmmlkaa
open Go.RowKit
set_option linter.unusedVariables false
set_option linter.unusedSimpArgs false
variable {w w' : World} {base : Nat} {l a : Value} {ps : List Pk} {A : List (Int × Int)}

/-- what a call of the document's leaves: rows that were there, or new ones. -/
structure RTo (w w' : World) (l a l' a' : Value) : Prop where
  below : Below w.heap.size w w'
  fst : ∀ k, l'.ownBlock = some k → l.ownBlock = some k ∨ w.heap.size ≤ k
  snd : ∀ k, a'.ownBlock = some k → a.ownBlock = some k ∨ w.heap.size ≤ k
theorem RTo.same (h : Below w.heap.size w w') : RTo w w' l a l a := ⟨h, fun _ h => .inl h, fun _ h => .inl h⟩
theorem ret_box45 {fn : Func} {R : Ending → World → Prop} {act : Act} {w : World} {t u : Nat} {b : Nat} {x y q : Value} (h : fn.results = #[.cell t 45, .tmp u]) (hd : act.defers = []) (ht : act.tmps.getD t undef = .pointer (some ⟨b, 0, none⟩)) (hu : act.tmps.getD u undef = q)
    (hb : Box w b 45 #[x, y]) (hR : R (.returned (.tuple #[.agg #[x, y], q])) w) : bodyPost Try.prog fn R .ret act w := by
  have c0 : w.cell? ⟨b, 0, none⟩ = some x := hb.cell 0
  have c1 : w.cell? ⟨b, 1, none⟩ = some y := hb.cell 1
  refine bodyPost_ret (v := .tuple #[.agg #[x, y], q]) ?_ hd hR
  rw [Array.getD_eq_getD_getElem?] at ht hu
  simp [results, h, ht, hu, go_sem, c0, c1]
def rsendOk (ps : List Pk) (A : List (Int × Int)) (p : Pk) : Bool := decide (ps.length < 2000) && !A.any (apQ p.1 p.2.1)

theorem rsend_no (p : Pk) (h : RNet w base l a ps A) (hl : ps.length ≤ 2000) (hA : A.length ≤ 1000) (hno : rsendOk ps A p = false) :
    Calls Try.prog 25 #[rv l a, pv p] w fun e w' => e = .returned (.tuple #[rv l a, .bool false]) ∧ Below w.heap.size w w' := by
  obtain ⟨ad, c, rfl, _⟩ := own_shape h.row
  obtain ⟨aa, ca, rfl, _⟩ := own_shape h.prs
  have HR := Lib.hid h
  have B0 := Lib.hid ((((Below.refl w.heap.size w).alloc (Nat.le_refl _) (.cells #[.slice ad ps.length c, .slice aa A.length ca] 45)).alloc (by simp) (.cells #[.int .i64 p.1, .int .i64 p.2.1, .string p.2.2] 27)).alloc (by simp; omega) (.cells #[.slice none 0 0, .slice none 0 0] 45))
  have hX := ((Box.new w 45 #[.slice ad ps.length c, .slice aa A.length ca]).alloc (.cells #[.int .i64 p.1, .int .i64 p.2.1, .string p.2.2] 27)).alloc (.cells #[.slice none 0 0, .slice none 0 0] 45)
  have hZ := Box.new ((w.alloc (.cells #[.slice ad ps.length c, .slice aa A.length ca] 45)).alloc (.cells #[.int .i64 p.1, .int .i64 p.2.1, .string p.2.2] 27)) 45 #[.slice none 0 0, .slice none 0 0]
  simp only [World.size_alloc] at hZ
  have HX := Lib.hid hX
  have HZ := Lib.hid hZ
  unfold rv pv
  clear h hX hZ
  by_cases hfull : ps.length < 2000
  · have hap : A.any (apQ p.1 p.2.1) = true := by simpa [rsendOk, hfull] using hno
    have hlt : ¬ (2000 : Int) ≤ (ps.length : Int) := by omega
    have HAP := Lib.hid hap
    clear hno hap
    go_enter Try.func25, Try.ntmps25
    go_wp2_with fail
    generalize ((w.alloc (.cells #[.slice ad ps.length c, .slice aa A.length ca] 45)).alloc (.cells #[.int .i64 p.1, .int .i64 p.2.1, .string p.2.2] 27)).alloc (.cells #[.slice none 0 0, .slice none 0 0] 45) = w0 at HX HZ B0 ⊢
    have CA := Lib.hid (rapart_any p.1 p.2.1 (HR.out.below B0.out (Nat.le_refl _)) hA)
    unfold rv at CA
    rw [HAP.out] at CA
    refine CA.out.mono ?_
    rintro e w1 ⟨rfl, b1⟩
    have HX1 := Lib.hid (HX.out.below b1 HX.out.lt)
    have HZ1 := Lib.hid (HZ.out.below b1 HZ.out.lt)
    have B1 := Lib.hid (B0.out.trans (b1.mono B0.out.size))
    have x0 : w1.cell? ⟨w.heap.size, 0, none⟩ = some (.slice ad ps.length c) := HX1.out.cell 0
    have x1 : w1.cell? ⟨w.heap.size, 1, none⟩ = some (.slice aa A.length ca) := HX1.out.cell 1
    have z0 : w1.cell? ⟨w.heap.size + 1 + 1, 0, none⟩ = some (.slice none 0 0) := HZ1.out.cell 0
    have z1 : w1.cell? ⟨w.heap.size + 1 + 1, 1, none⟩ = some (.slice none 0 0) := HZ1.out.cell 1
    have f0 := HZ1.out.frozen 0
    have f1 := HZ1.out.frozen 1
    have hw1 := HZ1.out.lt
    clear b1 CA
    go_wp2
    exact ret_box45 Try.results25 rfl rfl rfl ((HZ1.out.set 0 _).set 1 _) ⟨rfl, (B1.out.setCell (by simp; omega) _).setCell (by simp; omega) _⟩
  · have hge : (2000 : Int) ≤ (ps.length : Int) := by omega
    clear hno
    go_enter Try.func25, Try.ntmps25
    go_wp2
    have hX' := Box.new ((w.alloc (.cells #[.slice ad ps.length c, .slice aa A.length ca] 45)).alloc (.cells #[.int .i64 p.1, .int .i64 p.2.1, .string p.2.2] 27)) 45 #[.slice ad ps.length c, .slice aa A.length ca]
    simp only [World.size_alloc] at hX'
    exact ret_box45 Try.results25 rfl rfl rfl hX' ⟨rfl, ((((Below.refl w.heap.size w).alloc (Nat.le_refl _) _).alloc (by simp) _).alloc (by simp; omega) _)⟩

set_option maxRecDepth 100000 in
set_option maxHeartbeats 1000000 in
theorem rsend_yes (p : Pk) (h : RNet w base l a ps A) (hb : base ≤ w.heap.size) (hA : A.length ≤ 1000) (hyes : rsendOk ps A p = true) :
    Calls Try.prog 25 #[rv l a, pv p] w fun e w' => ∃ l', e = .returned (.tuple #[rv l' a, .bool true]) ∧ RNet w' base l' a (ps ++ [p]) A ∧ RTo w w' l a l' a := by
  simp only [rsendOk, Bool.and_eq_true, decide_eq_true_eq, Bool.not_eq_true'] at hyes
  obtain ⟨hfull, hap⟩ := hyes
  obtain ⟨ad, c, rfl, _⟩ := own_shape h.row
  obtain ⟨aa, ca, rfl, _⟩ := own_shape h.prs
  have HR := Lib.hid h
  have B0 := Lib.hid ((((Below.refl w.heap.size w).alloc (Nat.le_refl _) (.cells #[.slice ad ps.length c, .slice aa A.length ca] 45)).alloc (by simp) (.cells #[.int .i64 p.1, .int .i64 p.2.1, .string p.2.2] 27)).alloc (by simp; omega) (.cells #[.slice none 0 0, .slice none 0 0] 45))
  have hX := ((Box.new w 45 #[.slice ad ps.length c, .slice aa A.length ca]).alloc (.cells #[.int .i64 p.1, .int .i64 p.2.1, .string p.2.2] 27)).alloc (.cells #[.slice none 0 0, .slice none 0 0] 45)
  have hZ := Box.new ((w.alloc (.cells #[.slice ad ps.length c, .slice aa A.length ca] 45)).alloc (.cells #[.int .i64 p.1, .int .i64 p.2.1, .string p.2.2] 27)) 45 #[.slice none 0 0, .slice none 0 0]
  have hP := (Box.new (w.alloc (.cells #[.slice ad ps.length c, .slice aa A.length ca] 45)) 27 #[.int .i64 p.1, .int .i64 p.2.1, .string p.2.2]).alloc (.cells #[.slice none 0 0, .slice none 0 0] 45)
  simp only [World.size_alloc] at hZ hP
  have HX := Lib.hid hX
  have HZ := Lib.hid hZ
  have HP := Lib.hid hP
  unfold rv pv
  have hlt : ¬ (2000 : Int) ≤ (ps.length : Int) := by omega
  have HAP := Lib.hid hap
  clear h hX hZ hP hap
  go_enter Try.func25, Try.ntmps25
  go_wp2_with fail
  generalize ((w.alloc (.cells #[.slice ad ps.length c, .slice aa A.length ca] 45)).alloc (.cells #[.int .i64 p.1, .int .i64 p.2.1, .string p.2.2] 27)).alloc (.cells #[.slice none 0 0, .slice none 0 0] 45) = w0 at HX HZ HP B0 ⊢
  have CA := Lib.hid (rapart_any p.1 p.2.1 (HR.out.below B0.out (Nat.le_refl _)) hA)
  unfold rv at CA
  rw [HAP.out] at CA
  refine CA.out.mono ?_
  rintro e w1 ⟨rfl, b1⟩
  have B1 := Lib.hid (B0.out.trans (b1.mono B0.out.size))
  have HX1 := Lib.hid (HX.out.below b1 HX.out.lt)
  have HZ1 := Lib.hid (HZ.out.below b1 HZ.out.lt)
  have HP1 := Lib.hid (HP.out.below b1 HP.out.lt)
  clear b1 CA
  have x0 : w1.cell? ⟨w.heap.size, 0, none⟩ = some (.slice ad ps.length c) := HX1.out.cell 0
  have hw1 : w.heap.size < w1.heap.size := HX1.out.lt
  have HR1 := Lib.hid ((HR.out.below B1.out (Nat.le_refl _)).alloc (.cells #[] 27))
  have HO1 := Lib.hid (World.ownsRow_lit (base := w.heap.size) (e := 27) (size := 3) w1 #[] 0 B1.out.size (by decide) rfl)
  have HS1 := Lib.hid (own_src HR1.out.row (cells_one ps))
  obtain ⟨i0, hi, hz0, hz1, hz2⟩ := info_parts row27
  have hz : i0.zero = some zeroPk := hz0
  have HI := Lib.hid hi
  have HZZ := Lib.hid hz
  have HSZ1 := Lib.hid (show w.heap.size ≤ (w1.alloc (.cells #[] 27)).heap.size by simp; omega)
  clear hz0 hi hz
  go_wp2_with (at_builtin; refine wpList_append_at rfl (.tmp 20) (.tmp 22) 22 rfl w.heap.size 27 i0 zeroPk 3 32 Try.underlying22 HI.out HZZ.out hz1 hz2 rfl (by decide) _ _ _ rfl HO1.out _ _ _ _ rfl HS1.out ?c2 ?c3 ?c4 ?_)
  case c2 => unfold maxLen; omega
  case c3 => omega
  case c4 => first | exact HSZ1.out | (have h0 := HSZ1.out; simpa using h0)
  intro v2 w2 own2 g2 at2
  replace own2 := (show w2.ownsRow w.heap.size 27 3 v2 ps.length (cellsOf ps) by simpa using own2)
  obtain ⟨ad2, c2, rfl, hc2⟩ := own_shape own2
  have hn2 : ∀ k, k < w1.heap.size → some k ≠ (Value.slice (some ⟨w1.heap.size, 0, none⟩) 0 0).ownBlock := fun k hk e => (by have h0 : k = w1.heap.size := (by simpa [Value.ownBlock] using e); omega)
  have B2 := Lib.hid ((B1.out.alloc B1.out.size (.cells #[] 27)).grown g2 HSZ1.out (own_ge HO1.out))
  have HX2 := Lib.hid ((HX1.out.alloc (.cells #[] 27)).grown g2 (hn2 _ HX1.out.lt))
  have HZ2 := Lib.hid ((HZ1.out.alloc (.cells #[] 27)).grown g2 (hn2 _ HZ1.out.lt))
  have HP2 := Lib.hid ((HP1.out.alloc (.cells #[] 27)).grown g2 (hn2 _ HP1.out.lt))
  have HO2 := Lib.hid (own2.alloc (.cells #[.int .i64 p.1, .int .i64 p.2.1, .string p.2.2] 27))
  have HSX := Lib.hid (src3 w2 p)
  have p0 : w2.cell? ⟨w.heap.size + 1, 0, none⟩ = some (.int .i64 p.1) := HP2.out.cell 0
  have p1 : w2.cell? ⟨w.heap.size + 1, 1, none⟩ = some (.int .i64 p.2.1) := HP2.out.cell 1
  have p2 : w2.cell? ⟨w.heap.size + 1, 2, none⟩ = some (.string p.2.2) := HP2.out.cell 2
  have HSZ2 := Lib.hid (show w.heap.size ≤ (w2.alloc (.cells #[.int .i64 p.1, .int .i64 p.2.1, .string p.2.2] 27)).heap.size by have := B2.out.size; simp; omega)
  have HOB := Lib.hid (own_base own2 (base' := w1.heap.size) (fun k hk => by
    rcases at2 with e | e
    · rw [e] at hk; have : k = w1.heap.size := by simpa [Value.ownBlock] using hk.symm
      omega
    · rw [e] at hk; have : k = w1.heap.size + 1 := by simpa [Value.ownBlock] using hk.symm
      omega))
  have hsz12 : w1.heap.size ≤ w2.heap.size := by have := g2.size; simp at this; omega
  clear own2 g2 at2 x0
  go_wp2_with (at_builtin; refine wpList_append_at rfl (.tmp 24) (.tmp 26) 22 rfl w.heap.size 27 i0 zeroPk 3 32 Try.underlying22 HI.out HZZ.out hz1 hz2 rfl (by decide) _ _ _ rfl HO2.out _ _ _ _ rfl HSX.out ?c2 ?c3 ?c4 ?_)
  case c2 => unfold maxLen; omega
  case c3 => omega
  case c4 => first | exact HSZ2.out | (have h0 := HSZ2.out; simpa using h0)
  intro v4 w4 own4 g4 at4
  obtain ⟨ad4, c4, rfl, hc4⟩ := own_shape own4
  have hn4 : ∀ k, k < w1.heap.size → some k ≠ (Value.slice ad2 ps.length c2).ownBlock := fun k hk e => by have := own_ge HOB.out k e.symm; omega
  have B4 := Lib.hid ((B2.out.alloc B2.out.size (.cells #[.int .i64 p.1, .int .i64 p.2.1, .string p.2.2] 27)).grown g4 HSZ2.out (own_ge HO2.out))
  have HX4 := Lib.hid ((HX2.out.alloc (.cells #[.int .i64 p.1, .int .i64 p.2.1, .string p.2.2] 27)).grown g4 (hn4 _ HX1.out.lt))
  have HZ4 := Lib.hid ((HZ2.out.alloc (.cells #[.int .i64 p.1, .int .i64 p.2.1, .string p.2.2] 27)).grown g4 (hn4 _ HZ1.out.lt))
  have HO4 := Lib.hid own4
  have y0 : w4.cell? ⟨w.heap.size, 0, none⟩ = some (.slice ad ps.length c) := HX4.out.cell 0
  have y1 : w4.cell? ⟨w.heap.size, 1, none⟩ = some (.slice aa A.length ca) := HX4.out.cell 1
  have z0 : w4.cell? ⟨w.heap.size + 1 + 1, 0, none⟩ = some (.slice none 0 0) := HZ4.out.cell 0
  have z1 : w4.cell? ⟨w.heap.size + 1 + 1, 1, none⟩ = some (.slice none 0 0) := HZ4.out.cell 1
  have f0 := HX4.out.frozen 0
  have g0 := HZ4.out.frozen 0
  have g1 := HZ4.out.frozen 1
  have HGE : Hid (∀ k, (Value.slice ad4 (ps.length + 1) c4).ownBlock = some k → w1.heap.size ≤ k) := fun k hk => by
    rcases at4 with e | e
    · rw [e] at hk; exact own_ge HOB.out k hk
    · rw [e] at hk; have : k = w2.heap.size + 1 := by simpa [Value.ownBlock] using hk.symm
      omega
  have FIN : Hid (RNet (((w4.setCell ⟨w.heap.size, 0, none⟩ (.slice ad4 (ps.length + 1) c4)).setCell ⟨w.heap.size + 1 + 1, 0, none⟩ (.slice ad4 (ps.length + 1) c4)).setCell ⟨w.heap.size + 1 + 1, 1, none⟩ (.slice aa A.length ca)) base (.slice ad4 (ps.length + 1) c4) (.slice aa A.length ca) (ps ++ [p]) A ∧
      RTo w (((w4.setCell ⟨w.heap.size, 0, none⟩ (.slice ad4 (ps.length + 1) c4)).setCell ⟨w.heap.size + 1 + 1, 0, none⟩ (.slice ad4 (ps.length + 1) c4)).setCell ⟨w.heap.size + 1 + 1, 1, none⟩ (.slice aa A.length ca)) (.slice ad ps.length c) (.slice aa A.length ca) (.slice ad4 (ps.length + 1) c4) (.slice aa A.length ca)) := by
    have hB := ((B4.out.setCell (p := ⟨w.heap.size, 0, none⟩) (Nat.le_refl _) (.slice ad4 (ps.length + 1) c4)).setCell (p := ⟨w.heap.size + 1 + 1, 0, none⟩) (by show w.heap.size ≤ w.heap.size + 1 + 1; omega) (.slice ad4 (ps.length + 1) c4)).setCell (p := ⟨w.heap.size + 1 + 1, 1, none⟩) (by show w.heap.size ≤ w.heap.size + 1 + 1; omega) (.slice aa A.length ca)
    have hzl := HZ1.out.lt
    have hxl := HX1.out.lt
    refine ⟨⟨?_, (HR.out.below hB (Nat.le_refl _)).prs⟩, ⟨hB, fun k hk => .inr (by have := HGE.out k hk; omega), fun k hk => .inl hk⟩⟩
    rw [cells_snoc, List.length_append]
    refine own_base (own_stays HO4.out (fun k hk => ?_)) (fun k hk => by have := HGE.out k hk; omega)
    have hk2 := HGE.out k hk
    exact (Below.heap_setCell _ _ _ _ (by show k ≠ w.heap.size + 1 + 1; omega)).trans ((Below.heap_setCell _ _ _ _ (by show k ≠ w.heap.size + 1 + 1; omega)).trans (Below.heap_setCell _ _ _ _ (by show k ≠ w.heap.size; omega)))
  clear at4 own4 g4 hn4

  go_wp2
  exact ret_box45 Try.results25 rfl rfl rfl (((HZ4.out.set_other (p := ⟨w.heap.size, 0, none⟩) (by simp; omega) _).set 0 _).set 1 _) ⟨_, rfl, FIN.out.1, FIN.out.2⟩
end Go.Proofs.Ytejoggbebmmlkaa
