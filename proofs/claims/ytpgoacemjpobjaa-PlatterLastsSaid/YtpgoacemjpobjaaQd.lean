/- The document's disk: New. Conditions: none. -/
import Derived.Test.YtpgoacemjpobjaaQc
namespace Go.Proofs.Ytpgoacemjpobjaa
open Go Go.RowKit
set_option linter.unusedVariables false
set_option linter.unusedSimpArgs false
variable {w w' : World} {base n : Nat} {bad bad' : Nat → Prop} {D : Dk}

theorem src9 (w : World) (z : ByteArray) : Src (w.alloc (.cells #[.string z] 9)) (some ⟨w.heap.size, 0, none⟩) 1 1 [.string z] := by
  refine ⟨rfl, by intro u hu; simp at hu; subst hu; rfl, .inr ⟨_, rfl, fun j u hu => ?_⟩⟩
  rw [Addr.add_lit, Nat.zero_add, (Box.new w 9 #[.string z]).cell j]
  simpa using hu
set_option maxHeartbeats 2000000 in
set_option maxRecDepth 100000 in
theorem rnew_any (m : Int) (hm : m ≤ 60) (w : World) : Calls Try.prog 23 #[.int .i64 m] w fun e w' => ∃ af cf, e = .returned (rdv af none cf 0 (newD m)) ∧ RAt w' (fun i => i < w.heap.size) af none cf 0 (newD m) ∧ Below w.heap.size w w' := by
  have hX := (Box.new w 28 #[.slice none 0 0, .slice none 0 0, .int .i64 0, .bool false]).alloc (.cells #[.slice none 0 0, .slice none 0 0, .int .i64 0, .bool false] 28)
  have hZ := Box.new (w.alloc (.cells #[.slice none 0 0, .slice none 0 0, .int .i64 0, .bool false] 28)) 28 #[.slice none 0 0, .slice none 0 0, .int .i64 0, .bool false]
  have HX := Lib.hid (hX.alloc (.cells zeros 5))
  have HZ := Lib.hid (show Box (((w.alloc (.cells #[.slice none 0 0, .slice none 0 0, .int .i64 0, .bool false] 28)).alloc (.cells #[.slice none 0 0, .slice none 0 0, .int .i64 0, .bool false] 28)).alloc (.cells zeros 5)) (w.heap.size + 1) 28 #[.slice none 0 0, .slice none 0 0, .int .i64 0, .bool false] by have := hZ.alloc (.cells zeros 5); simpa using this)
  have B0 := Lib.hid ((((Below.refl w.heap.size w).alloc (Nat.le_refl _) (.cells #[.slice none 0 0, .slice none 0 0, .int .i64 0, .bool false] 28)).alloc (by simp) (.cells #[.slice none 0 0, .slice none 0 0, .int .i64 0, .bool false] 28)).alloc (by simp; omega) (.cells zeros 5))
  have hcv := conv_any (bys_new ((w.alloc (.cells #[.slice none 0 0, .slice none 0 0, .int .i64 0, .bool false] 28)).alloc (.cells #[.slice none 0 0, .slice none 0 0, .int .i64 0, .bool false] 28)) zsec 5 rfl) 64
  simp only [World.size_alloc] at hcv
  have hz0 : (bc zsec).toArray = zeros := rfl
  rw [hz0] at hcv
  obtain ⟨z, hz⟩ : ∃ z : ByteArray, z = ⟨zsec.toArray⟩ := ⟨_, rfl⟩
  unfold st at hcv
  rw [← hz] at hcv
  have hmk := mk64
  have HZE := Lib.hid hz
  obtain ⟨i0, hi, hzz0, hz1, hz2⟩ := info_parts isz9
  have HI := Lib.hid hi
  have HZZ := Lib.hid hzz0
  clear hX hZ hz0 hz hi hzz0
  go_enter Try.func23, Try.ntmps23
  go_wp2_with fail
  generalize ((w.alloc (.cells #[.slice none 0 0, .slice none 0 0, .int .i64 0, .bool false] 28)).alloc (.cells #[.slice none 0 0, .slice none 0 0, .int .i64 0, .bool false] 28)).alloc (.cells zeros 5) = w0 at HX HZ B0 hcv ⊢
  clear hcv hmk
  go_loopw [5] (fun iv wr => ∃ (k : Nat) (v : Value), k ≤ m.toNat ∧ iv = .int .i64 k ∧ Box wr w.heap.size 28 #[.slice none 0 0, .slice none 0 0, .int .i64 0, .bool false] ∧ Box wr (w.heap.size + 1) 28 #[v, .slice none 0 0, .int .i64 0, .bool false] ∧ wr.ownsRow w.heap.size 9 1 v k (strC (List.replicate k zsec)) ∧ Below w.heap.size w wr) (fun iv _ => m.toNat - (intOf iv).toNat)
  case atStart => exact ⟨0, _, Nat.zero_le _, rfl, HX.out, HZ.out, World.ownsRow_nil _ _ _ _, B0.out⟩
  case round =>
    obtain ⟨k, v, hk, rfl, hx, hb, hO, hB⟩ := hrel
    obtain ⟨ak, ck, rfl, hck⟩ := own_shape hO
    have HXR := Lib.hid hx
    have HBR := Lib.hid hb
    have HOR := Lib.hid hO
    have HB := Lib.hid hB
    have b0 : wr.cell? ⟨w.heap.size + 1, 0, none⟩ = some (.slice ak k ck) := hb.cell 0
    have b1 : wr.cell? ⟨w.heap.size + 1, 1, none⟩ = some (.slice none 0 0) := hb.cell 1
    have b2 : wr.cell? ⟨w.heap.size + 1, 2, none⟩ = some (.int .i64 0) := hb.cell 2
    have b3 : wr.cell? ⟨w.heap.size + 1, 3, none⟩ = some (.bool false) := hb.cell 3
    by_cases hlt : (k : Int) < m
    · have h65 : (k : Int) < 65536 := by omega
      have HO1 := Lib.hid (own_stays hO (w' := wr.alloc (.cells #[.string z] 9)) (fun i hi => Below.heap_alloc wr _ i (own_lt hO i hi)))
      have HSR := Lib.hid (src9 wr z)
      have HX1 := Lib.hid (hx.alloc (.cells #[.string z] 9))
      have HB1 := Lib.hid (hb.alloc (.cells #[.string z] 9))
      have BB1 := Lib.hid (hB.alloc hB.size (.cells #[.string z] 9))
      have HSZ := Lib.hid (show w.heap.size ≤ (wr.alloc (.cells #[.string z] 9)).heap.size by have := hB.size; simp; omega)
      clear hx hb hO hB
      go_wp2_with (at_builtin; refine wpList_append_at rfl (.tmp 18) (.tmp 20) 25 rfl w.heap.size 9 i0 _ 1 16 Try.underlying25 HI.out HZZ.out hz1 hz2 rfl (by decide) _ _ _ rfl HO1.out _ _ _ _ rfl HSR.out (by unfold maxLen; omega) (by omega) HSZ.out ?_)
      intro v6 w6 own6 g6 at6
      obtain ⟨a6, c6, rfl, _⟩ := own_shape own6
      have hnx := own_box_ne HO1.out HX1.out (by decide)
      have hnb := own_box_ne HO1.out HB1.out (by decide)
      have HX6 := Lib.hid (HX1.out.grown g6 (fun e => hnx e.symm))
      have HB6 := Lib.hid (HB1.out.grown g6 (fun e => hnb e.symm))
      have BB6 := Lib.hid (BB1.out.grown g6 HSZ.out (own_ge HO1.out))
      have HO6 := Lib.hid own6
      have hny := own_box_ne own6 HB6.out (by decide)
      have HNY := Lib.hid hny
      clear own6 g6 at6 hnx hnb b0 b1 b2 b3 hny
      have b0 : w6.cell? ⟨w.heap.size + 1, 0, none⟩ = some (.slice ak k ck) := HB6.out.cell 0
      have f0 := HB6.out.frozen 0
      go_wp2
      go_roundw
      case rel =>
        refine ⟨k + 1, .slice a6 (k + 1) c6, by omega, by go_num, HX6.out.set_other (p := ⟨w.heap.size + 1, 0, none⟩) (by show w.heap.size ≠ w.heap.size + 1; omega) _, HB6.out.set 0 _, ?_, BB6.out.setCell (by show w.heap.size ≤ w.heap.size + 1; omega) _⟩
        have h1 : strC (List.replicate (k + 1) zsec) = strC (List.replicate k zsec) ++ [.string z] := by
          rw [HZE.out]; unfold strC; rw [List.map_replicate, List.map_replicate, List.replicate_succ']; rfl
        rw [h1]
        exact own_stays HO6.out (fun i hi => Below.heap_setCell _ _ _ _ (fun e => HNY.out (hi.trans (congrArg some e))))
      case measure => simp [intOf]; omega
    · have hge : ¬ (k : Int) < m := hlt
      obtain ⟨hkm, hnd⟩ : k = m.toNat ∧ newD m = { now := List.replicate k zsec, firm := List.replicate k zsec, wait := [], armed := 0, dead := false } := by
        have h1 : k = m.toNat := by omega
        refine ⟨h1, ?_⟩
        unfold newD
        have h2 : (min (max m 0) 65536).toNat = k := by omega
        rw [h2]
      have HND := Lib.hid hnd
      have x0 : wr.cell? ⟨w.heap.size, 0, none⟩ = some (.slice none 0 0) := hx.cell 0
      have x1 : wr.cell? ⟨w.heap.size, 1, none⟩ = some (.slice none 0 0) := hx.cell 1
      have x2 : wr.cell? ⟨w.heap.size, 2, none⟩ = some (.int .i64 0) := hx.cell 2
      have x3 : wr.cell? ⟨w.heap.size, 3, none⟩ = some (.bool false) := hx.cell 3
      have f0 := hx.frozen 0
      have f1 := hx.frozen 1
      have f2 := hx.frozen 2
      have f3 := hx.frozen 3
      have hnx := own_box_ne hO hx (by decide)
      have HNX := Lib.hid hnx
      clear hx hb hO hB hnd hkm hnx
      go_wp2
      have BE := (((HB.out.setCell (p := ⟨w.heap.size, 0, none⟩) (Nat.le_refl _) (.slice ak k ck)).setCell (p := ⟨w.heap.size, 1, none⟩) (Nat.le_refl _) (.slice none 0 0)).setCell (p := ⟨w.heap.size, 2, none⟩) (Nat.le_refl _) (.int .i64 0)).setCell (p := ⟨w.heap.size, 3, none⟩) (Nat.le_refl _) (.bool false)
      refine ret_box28 Try.results23 rfl rfl ((((HXR.out.set 0 _).set 1 _).set 2 _).set 3 _) ⟨ak, ck, ?_, ⟨?_, .inl ?_, ?_, ?_⟩, BE⟩
      · rw [HND.out]; unfold rdv; simp
      · rw [HND.out]
        have hO2 := own_stays HOR.out (w' := (((wr.setCell ⟨w.heap.size, 0, none⟩ (.slice ak k ck)).setCell ⟨w.heap.size, 1, none⟩ (.slice none 0 0)).setCell ⟨w.heap.size, 2, none⟩ (.int .i64 0)).setCell ⟨w.heap.size, 3, none⟩ (.bool false)) (fun i hi => by
          have hne : i ≠ w.heap.size := fun e => HNX.out (e ▸ hi)
          exact (Below.heap_setCell _ _ _ _ hne).trans ((Below.heap_setCell _ _ _ _ hne).trans ((Below.heap_setCell _ _ _ _ hne).trans (Below.heap_setCell _ _ _ _ hne))))
        exact SeeF.of_own hO2 (fun i _ h1 h2 => by omega)
      · rw [HND.out]
      · rw [HND.out]; simpa using hck
      · rw [HND.out]; exact Nat.le_refl 0
end Go.Proofs.Ytpgoacemjpobjaa
