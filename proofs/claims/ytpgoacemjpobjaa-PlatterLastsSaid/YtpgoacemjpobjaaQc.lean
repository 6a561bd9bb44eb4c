/- The document's disk: put. Conditions: its rows lie in memory. -/
import Derived.Test.YtpgoacemjpobjaaQb
namespace Go.Proofs.Ytpgoacemjpobjaa
open Go Go.RowKit
set_option linter.unusedVariables false
set_option linter.unusedSimpArgs false
variable {w w' : World} {base n : Nat} {bad bad' : Nat → Prop} {D : Dk}

theorem row72 : (Try.prog.info? 72).map (fun i => (i.zero, i.size, i.bytes)) = some (some (.agg #[.int .i64 0, .string ⟨#[]⟩]), 2, 24) := by kernel_rfl
theorem src72 (w : World) (x : Wr) : Src (w.alloc (.cells #[.int .i64 x.1, st x.2] 72)) (some ⟨w.heap.size, 0, none⟩) 1 2 (wr2 x) := by
  refine ⟨rfl, by simpa [wrC] using wrC_one [x], .inr ⟨_, rfl, fun j u hu => ?_⟩⟩
  rw [Addr.add_lit, Nat.zero_add, (Box.new w 72 #[.int .i64 x.1, st x.2]).cell j]
  simpa [wr2] using hu
theorem wrC_snoc (l : List Wr) (x : Wr) : wrC (l ++ [x]) = wrC l ++ wr2 x := by simp [wrC]
theorem rfits (n : Nat) (h : n ≤ 1000000) : n + 1 ≤ maxLen ∧ (n + 1) * 24 ≤ 140737488355328 := by unfold maxLen; omega
set_option maxHeartbeats 2000000 in
set_option maxRecDepth 100000 in
theorem rput_any {af aw : Option Addr} {cf cw : Nat} (k : Nat) (b : Sec) (ad : Option Addr) (len cap : Nat) (h : RAt w bad af aw cf cw D) (hB : Bys w ad len b) (h64 : len ≤ 64) (hwl : D.wait.length ≤ 1000000) :
    Calls Try.prog 32 #[rdv af aw cf cw D, .int .i64 (k : Int), .slice ad len cap] w fun e w' => ∃ aw' cw', e = .returned (rdv af aw' cf cw' (putD D k (pad b))) ∧ RAt w' (fun i => bad i ∧ i < w.heap.size) af aw' cf cw' (putD D k (pad b)) ∧ Below w.heap.size w w' := by
  have HX := Lib.hid ((Box.new w 28 #[.slice af D.firm.length cf, .slice aw D.wait.length cw, .int .i64 D.armed, .bool D.dead]).alloc (.cells #[.slice none 0 0, .slice none 0 0, .int .i64 0, .bool false] 28))
  have hZ := Box.new (w.alloc (.cells #[.slice af D.firm.length cf, .slice aw D.wait.length cw, .int .i64 D.armed, .bool D.dead] 28)) 28 #[.slice none 0 0, .slice none 0 0, .int .i64 0, .bool false]
  simp only [World.size_alloc] at hZ
  have HZ := Lib.hid hZ
  have B0 := Lib.hid (((Below.refl w.heap.size w).alloc (Nat.le_refl _) (.cells #[.slice af D.firm.length cf, .slice aw D.wait.length cw, .int .i64 D.armed, .bool D.dead] 28)).alloc (by simp) (.cells #[.slice none 0 0, .slice none 0 0, .int .i64 0, .bool false] 28))
  have hsl := pad_len (b := b) (by have := hB.1; omega)
  have HCP := copy_in5 ((w.alloc (.cells #[.slice af D.firm.length cf, .slice aw D.wait.length cw, .int .i64 D.armed, .bool D.dead] 28)).alloc (.cells #[.slice none 0 0, .slice none 0 0, .int .i64 0, .bool false] 28)) (hB.bel B0.out) h64 cap
  obtain ⟨s, hs⟩ : ∃ s, s = pad b := ⟨_, rfl⟩
  have HRT : Hid (∀ (aw' : Option Addr) (cw' : Nat), rdv af aw' cf cw' (putD D k s) = .agg #[.slice af D.firm.length cf, .slice aw' (D.wait.length + 1) cw', .int .i64 D.armed, .bool D.dead]) := fun aw' cw' => by unfold rdv putD; simp
  rw [← hs] at HCP hsl ⊢
  simp only [World.size_alloc] at HCP
  have HSL := Lib.hid hsl
  have hmk := mk64
  have HBB := Lib.hid (bys_new ((w.alloc (.cells #[.slice af D.firm.length cf, .slice aw D.wait.length cw, .int .i64 D.armed, .bool D.dead] 28)).alloc (.cells #[.slice none 0 0, .slice none 0 0, .int .i64 0, .bool false] 28)) s 5 hsl)
  have HS5 := Lib.hid (((h.w.bel B0.out).bel ((Below.refl _ _).alloc (Nat.le_refl _) (.cells (bc s).toArray 5))).bel ((Below.refl _ _).alloc (Nat.le_refl _) (.cells #[] 72))).src
  have hO1 := (World.ownsRow_lit (base := w.heap.size) (e := 72) (size := 2) (((w.alloc (.cells #[.slice af D.firm.length cf, .slice aw D.wait.length cw, .int .i64 D.armed, .bool D.dead] 28)).alloc (.cells #[.slice none 0 0, .slice none 0 0, .int .i64 0, .bool false] 28)).alloc (.cells (bc s).toArray 5)) #[] 0 (by simp; omega) (by decide) rfl)
  simp only [World.size_alloc] at hO1
  have HO1 := Lib.hid hO1
  have HSZ := Lib.hid (show w.heap.size ≤ ((((w.alloc (.cells #[.slice af D.firm.length cf, .slice aw D.wait.length cw, .int .i64 D.armed, .bool D.dead] 28)).alloc (.cells #[.slice none 0 0, .slice none 0 0, .int .i64 0, .bool false] 28)).alloc (.cells (bc s).toArray 5)).alloc (.cells #[] 72)).heap.size by simp; omega)
  have B3 := Lib.hid ((B0.out.alloc (by simp; omega) (.cells (bc s).toArray 5)).alloc (by simp; omega) (.cells #[] 72))
  have HX3 := Lib.hid ((HX.out.alloc (.cells (bc s).toArray 5)).alloc (.cells #[] 72))
  have HZ3 := Lib.hid ((HZ.out.alloc (.cells (bc s).toArray 5)).alloc (.cells #[] 72))
  have HBB3 := Lib.hid (HBB.out.bel ((Below.refl _ _).alloc (Nat.le_refl _) (.cells #[] 72)))
  have HFT := Lib.hid (rfits D.wait.length hwl)
  obtain ⟨i0, hi, hz0, hz1, hz2⟩ := info_parts row72
  have HI := Lib.hid hi
  have HZZ := Lib.hid hz0
  have HH := Lib.hid h
  unfold rdv
  clear hO1 hZ hB hs hsl h hi hz0
  go_enter Try.func32, Try.ntmps32
  go_wp2_with (at_builtin; refine wpList_append_at rfl (.tmp 13) (.tmp 15) 26 rfl w.heap.size 72 i0 _ 2 24 Try.underlying26 HI.out HZZ.out hz1 hz2 rfl (by decide) _ _ _ rfl HO1.out _ _ _ _ rfl HS5.out (by have := HFT.out.1; omega) (by have := HFT.out.2; omega) HSZ.out ?_)
  intro v4 w4 own4 g4 at4
  obtain ⟨a4, c4, rfl, _⟩ := own_shape own4
  have hn4 : ∀ i, i < w.heap.size + 1 + 1 + 1 → some i ≠ (Value.slice (some ⟨w.heap.size + 1 + 1 + 1, 0, none⟩) 0 0).ownBlock := fun i hi e => (by have h0 : i = w.heap.size + 1 + 1 + 1 := (by simpa [Value.ownBlock] using e); omega)
  have HX4 := Lib.hid (HX3.out.grown g4 (hn4 _ (by omega)))
  have HZ4 := Lib.hid (HZ3.out.grown g4 (hn4 _ (by omega)))
  have B4 := Lib.hid (B3.out.grown g4 HSZ.out (own_ge HO1.out))
  have HBB4 : Hid (Bys w4 (some ⟨w.heap.size + 1 + 1, 0, none⟩) 64 s) := by
    have h0 := HBB3.out
    simp only [World.size_alloc] at h0
    refine h0.stays (fun g off e hg => ?_) g4.size
    have : g = w.heap.size + 1 + 1 := by simpa using (congrArg (fun a => a.map (·.block)) e).symm
    exact g4.block g hg (hn4 g (by omega))
  have hcv := conv_any HBB4.out 64
  unfold st at hcv
  have hge4 : Hid (∀ i, (Value.slice a4 D.wait.length c4).ownBlock = some i → w.heap.size + 1 + 1 + 1 ≤ i) := fun i hi => by
    rcases at4 with e | e
    · have e2 : some i = some (w.heap.size + 1 + 1 + 1) := hi.symm.trans e
      have : i = w.heap.size + 1 + 1 + 1 := by simpa using e2
      omega
    · have e2 := hi.symm.trans e
      simp only [World.size_alloc, Option.some.injEq] at e2; omega
  have hsz4 : w.heap.size + 1 + 1 + 1 + 1 ≤ w4.heap.size := by have := g4.size; simpa using this
  replace own4 := (show w4.ownsRow w.heap.size 72 2 (.slice a4 D.wait.length c4) D.wait.length (wrC D.wait) by simpa using own4)
  have HO4 := Lib.hid own4
  have HO5 := Lib.hid (own_stays own4 (w' := w4.alloc (.cells #[.int .i64 k, .string ⟨s.toArray⟩] 72)) (fun i hi => Below.heap_alloc w4 _ i (own_lt own4 i hi)))
  have HSR : Hid (Src (w4.alloc (.cells #[.int .i64 k, .string ⟨s.toArray⟩] 72)) (some ⟨w4.heap.size, 0, none⟩) 1 2 (wr2 (k, s))) := src72 w4 (k, s)
  have HSZ5 := Lib.hid (show w.heap.size ≤ (w4.alloc (.cells #[.int .i64 k, .string ⟨s.toArray⟩] 72)).heap.size by simp; omega)
  have HX5 := Lib.hid (HX4.out.alloc (.cells #[.int .i64 k, .string ⟨s.toArray⟩] 72))
  have HZ5 := Lib.hid (HZ4.out.alloc (.cells #[.int .i64 k, .string ⟨s.toArray⟩] 72))
  have B5 := Lib.hid (B4.out.alloc B4.out.size (.cells #[.int .i64 k, .string ⟨s.toArray⟩] 72))
  clear own4 g4 at4 hn4
  go_wp2_with (at_builtin; refine wpList_append_at rfl (.tmp 17) (.tmp 22) 26 rfl w.heap.size 72 i0 _ 2 24 Try.underlying26 HI.out HZZ.out hz1 hz2 rfl (by decide) _ _ _ rfl HO5.out _ _ _ _ rfl HSR.out (by have := HFT.out.1; omega) (by have := HFT.out.2; omega) HSZ5.out ?_)
  intro v6 w6 own6 g6 at6
  obtain ⟨a6, c6, rfl, _⟩ := own_shape own6
  have hn6 : ∀ i, i < w.heap.size + 1 + 1 + 1 → some i ≠ (Value.slice a4 D.wait.length c4).ownBlock := fun i hi e => by have := hge4.out i e.symm; omega
  have HX6 := Lib.hid (HX5.out.grown g6 (hn6 _ (by omega)))
  have HZ6 := Lib.hid (HZ5.out.grown g6 (hn6 _ (by omega)))
  have B6 := Lib.hid (B5.out.grown g6 HSZ5.out (own_ge HO5.out))
  have hge6 : Hid (∀ i, (Value.slice a6 (D.wait.length + 1) c6).ownBlock = some i → w.heap.size + 1 + 1 + 1 ≤ i) := fun i hi => by
    rcases at6 with e | e
    · exact hge4.out i (e.symm.trans hi)
    · have e2 := hi.symm.trans e
      simp only [World.size_alloc, Option.some.injEq] at e2; omega
  have HO6 := Lib.hid own6
  clear own6 g6 at6 hn6 hcv
  have x0 : w6.cell? ⟨w.heap.size, 0, none⟩ = some (.slice af D.firm.length cf) := HX6.out.cell 0
  have x1 : w6.cell? ⟨w.heap.size, 1, none⟩ = some (.slice aw D.wait.length cw) := HX6.out.cell 1
  have x2 : w6.cell? ⟨w.heap.size, 2, none⟩ = some (.int .i64 D.armed) := HX6.out.cell 2
  have x3 : w6.cell? ⟨w.heap.size, 3, none⟩ = some (.bool D.dead) := HX6.out.cell 3
  have z0 : w6.cell? ⟨w.heap.size + 1, 0, none⟩ = some (.slice none 0 0) := HZ6.out.cell 0
  have z1 : w6.cell? ⟨w.heap.size + 1, 1, none⟩ = some (.slice none 0 0) := HZ6.out.cell 1
  have z2 : w6.cell? ⟨w.heap.size + 1, 2, none⟩ = some (.int .i64 0) := HZ6.out.cell 2
  have z3 : w6.cell? ⟨w.heap.size + 1, 3, none⟩ = some (.bool false) := HZ6.out.cell 3
  have f0 := HZ6.out.frozen 0
  have f1 := HZ6.out.frozen 1
  have f2 := HZ6.out.frozen 2
  have f3 := HZ6.out.frozen 3
  have y1 := HX6.out.frozen 1
  go_wp2
  have hne : w.heap.size + 1 ≠ w.heap.size := by omega
  have BE := (((((B6.out.setCell (p := ⟨w.heap.size, 1, none⟩) (Nat.le_refl _) (.slice a6 (D.wait.length + 1) c6)).setCell (p := ⟨w.heap.size + 1, 0, none⟩) (by show w.heap.size ≤ w.heap.size + 1; omega) (.slice af D.firm.length cf)).setCell (p := ⟨w.heap.size + 1, 1, none⟩) (by show w.heap.size ≤ w.heap.size + 1; omega) (.slice a6 (D.wait.length + 1) c6)).setCell (p := ⟨w.heap.size + 1, 2, none⟩) (by show w.heap.size ≤ w.heap.size + 1; omega) (.int .i64 D.armed)).setCell (p := ⟨w.heap.size + 1, 3, none⟩) (by show w.heap.size ≤ w.heap.size + 1; omega) (.bool D.dead))
  refine ret_box28 Try.results32 rfl rfl (((((HZ6.out.set_other (p := ⟨w.heap.size, 1, none⟩) hne _).set 0 _).set 1 _).set 2 _).set 3 _) ⟨a6, c6, congrArg Ending.returned (HRT.out a6 c6).symm, ⟨?_, ?_, HH.out.cf, ?_⟩, BE⟩
  · exact (HH.out.f.bel BE).mono (fun i _ h => h.1)
  · have hO : w6.ownsRow (w.heap.size + 1 + 1 + 1) 72 2 (.slice a6 (D.wait.length + 1) c6) (D.wait.length + 1) (wrC (D.wait ++ [(k, s)])) := own_base (by rw [wrC_snoc]; exact HO6.out) hge6.out
    have hO2 := own_stays hO (w' := ((((w6.setCell ⟨w.heap.size, 1, none⟩ (.slice a6 (D.wait.length + 1) c6)).setCell ⟨w.heap.size + 1, 0, none⟩ (.slice af D.firm.length cf)).setCell ⟨w.heap.size + 1, 1, none⟩ (.slice a6 (D.wait.length + 1) c6)).setCell ⟨w.heap.size + 1, 2, none⟩ (.int .i64 D.armed)).setCell ⟨w.heap.size + 1, 3, none⟩ (.bool D.dead)) (fun i hi => by
      have := hge6.out i hi
      exact (Below.heap_setCell _ _ _ _ (by show i ≠ w.heap.size + 1; omega)).trans ((Below.heap_setCell _ _ _ _ (by show i ≠ w.heap.size + 1; omega)).trans ((Below.heap_setCell _ _ _ _ (by show i ≠ w.heap.size + 1; omega)).trans ((Below.heap_setCell _ _ _ _ (by show i ≠ w.heap.size + 1; omega)).trans (Below.heap_setCell _ _ _ _ (by show i ≠ w.heap.size; omega))))))
    exact SeeW.of_own hO2 (fun i _ h1 h2 => by omega)
  · have := HO6.out.2
    rcases this with ⟨e, e2⟩ | ⟨g, cap', cur, e, _, _, h1, _⟩
    · omega
    · have e3 : c6 = cap' := by injection e
      show (D.wait ++ [(k, s)]).length ≤ c6
      rw [e3, List.length_append]; exact h1
end Go.Proofs.Ytpgoacemjpobjaa
