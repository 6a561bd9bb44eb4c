/- alive: a write that is torn. Conditions: none. -/
import Derived.Test.YtpgoacemjpobjaaQj
import Derived.Lib.SlBytesConst
namespace Go.Proofs.Ytpgoacemjpobjaa
open Go Go.RowKit
set_option linter.unusedVariables false
set_option linter.unusedSimpArgs false
variable {w w' : World} {base n : Nat} {V V' : Vs} {D : Dk}

theorem bys_lit (w : World) (s : Sec) (mk : Nat × Nat) (hs : s.length ≤ 1000) : Bys (w.alloc (.cells (bc s).toArray 5 mk)) (some ⟨w.heap.size, 0, none⟩) s.length s := by
  refine ⟨rfl, by unfold maxLen; omega, .inr ⟨_, 0, rfl, by simp, fun j v hj => ?_⟩⟩
  rw [Nat.zero_add, cell_of_row (w.alloc (.cells (bc s).toArray 5 mk)) w.heap.size j (bc s).toArray 5 mk (heap_alloc_new w _)]; simpa using hj
theorem good_wr (h : Good D) (k : Int) (b : Sec) : Good (wrD D k b) := by
  by_cases hk : k ≤ 9223372036854775807
  · have h1 := good_step ⟨0, k, 0, b⟩ hk h
    rwa [step_0 _ rfl h] at h1
  · unfold wrD
    rw [if_pos]
    · exact h
    · left
      unfold mayE
      have := h.many
      split
      · decide
      · rw [if_pos (by omega)]; decide
theorem wait_wr (h : Good D) (k : Int) (b : Sec) : (wrD D k b).wait.length ≤ D.wait.length + 1 := by
  have := wait_step (D := D) ⟨0, k, 0, b⟩
  rwa [step_0 _ rfl h] at this
def A1 : Dk := wrD (newD 2) 0 [97, 98]
def A2 : Dk := syncD A1
def A3 : Dk := wrD A2 0 [120, 121, 122]
def A4 : Dk := crashD A3 0 1
theorem goodA1 : Good A1 := good_wr (good_new 2) _ _
theorem goodA2 : Good A2 := good_sync goodA1
theorem goodA3 : Good A3 := good_wr goodA2 _ _
theorem goodA4 : Good A4 := good_crash goodA3 _ _
theorem waitA1 : A1.wait.length ≤ 1000000 := by decide +kernel
theorem waitA2 : A2.wait.length ≤ 1000000 := by decide +kernel
theorem waitA3 : A3.wait.length = 1 := by decide +kernel
theorem mayA4 : mayE A4 0 = 0 := by decide +kernel
theorem nowA4 : ∃ s, A4.now[0]? = some s ∧ s.take 3 = [120, 98, 0] := by
  have h : (A4.now[0]?).map (fun s => s.take 3) = some [120, 98, 0] := by decide +kernel
  obtain ⟨s, h1, h2⟩ := Option.map_eq_some_iff.1 h
  exact ⟨s, h1, h2⟩
set_option maxHeartbeats 2000000 in
set_option maxRecDepth 100000 in
theorem alive_any (w : World) : Calls Try.prog 9 #[] w fun e w' => e = .returned (.bool true) ∧ Below w.heap.size w w' := by
  have kc := fun (w : World) (C : Array Value) (n c : Nat) => Lib.run_convert_bytes_const (P := Try.prog) w 36 5 C n c Try.underlying36 Try.underlying5
  go_enter Try.func9, Try.ntmps9
  go_wp2_with fail
  refine (new_any 2).mono ?_
  rintro e w1 ⟨n, V, rfl, hD1, b1⟩
  have HD1 := Lib.hid hD1
  have B1 := Lib.hid b1
  clear hD1 b1
  go_wp2_with fail
  have bA := (Below.refl w1.heap.size w1).alloc (Nat.le_refl _) (.cells #[.int .u8 97, .int .u8 98] 5 (2, 3))
  have HBA := Lib.hid (show Bys (w1.alloc (.cells #[.int .u8 97, .int .u8 98] 5 (2, 3))) (some ⟨w1.heap.size, 0, none⟩) 2 [97, 98] from bys_lit w1 [97, 98] (2, 3) (by decide))
  have HDA := Lib.hid (HD1.out.bel bA)
  have BA := Lib.hid (B1.out.trans (bA.mono B1.out.size))
  clear bA
  refine (write_any 0 [97, 98] _ 2 2 HDA.out BA.out.size (good_new 2) HBA.out (by decide)).mono ?_
  rintro e w2 ⟨rfl, V2, hD2, hG2⟩
  have HD2 := Lib.hid (show Dsk w2 w.heap.size n V2 A1 from hD2)
  have B2 := Lib.hid (hG2.below BA.out (Nat.le_refl _) HDA.out.of_ge)
  clear hD2 hG2 HDA HBA HD1
  go_wp2_with fail
  refine (sync_any HD2.out B2.out.size goodA1 waitA1).mono ?_
  rintro e w3 ⟨rfl, V3, hD3, hG3⟩
  have HD3 := Lib.hid (show Dsk w3 w.heap.size n V3 A2 from hD3)
  have B3 := Lib.hid (hG3.below B2.out (Nat.le_refl _) HD2.out.of_ge)
  clear hD3 hG3
  go_wp2_with fail
  have bA := (Below.refl w3.heap.size w3).alloc (Nat.le_refl _) (.cells #[.int .u8 120, .int .u8 121, .int .u8 122] 5 (3, 4))
  have HBA := Lib.hid (show Bys (w3.alloc (.cells #[.int .u8 120, .int .u8 121, .int .u8 122] 5 (3, 4))) (some ⟨w3.heap.size, 0, none⟩) 3 [120, 121, 122] from bys_lit w3 [120, 121, 122] (3, 4) (by decide))
  have HDA := Lib.hid (HD3.out.bel bA)
  have BA := Lib.hid (B3.out.trans (bA.mono B3.out.size))
  clear bA
  refine (write_any 0 [120, 121, 122] _ 3 3 HDA.out BA.out.size goodA2 HBA.out waitA2).mono ?_
  rintro e w4 ⟨rfl, V4, hD4, hG4⟩
  have HD4 := Lib.hid (show Dsk w4 w.heap.size n V4 A3 from hD4)
  have B4 := Lib.hid (hG4.below BA.out (Nat.le_refl _) HDA.out.of_ge)
  clear hD4 hG4 HDA HBA
  go_wp2_with fail
  refine (crash_any 0 1 HD4.out B4.out.size goodA3 (by rw [waitA3]; decide)).mono ?_
  rintro e w5 ⟨n5, V5, rfl, hD5, b5⟩
  have HD5 := Lib.hid (show Dsk w5 w4.heap.size n5 V5 A4 from hD5)
  have HD45 := Lib.hid (HD4.out.bel b5)
  have B5 := Lib.hid (B4.out.trans (b5.mono B4.out.size))
  clear hD5 b5
  have CP := pending_any HD45.out (by rw [waitA3]; decide)
  rw [waitA3] at CP
  have CP := Lib.hid CP
  go_wp2_with fail
  refine CP.out.mono ?_
  rintro e w6 ⟨rfl, rfl⟩
  clear CP
  go_wp2_with fail
  refine (read_any 0 HD5.out goodA4).mono ?_
  obtain ⟨s0, hs0, hs3⟩ := nowA4
  have hmay := mayA4
  rintro e w7 (⟨hm, _⟩ | ⟨_, s, hs, rfl, rfl⟩)
  · exact absurd hmay hm
  · have hss : s = s0 := by rw [show ((0 : Int).toNat) = 0 from rfl, hs0] at hs; exact (Option.some.inj hs).symm
    subst hss
    have hl := goodA4.fulln s (List.mem_of_getElem? hs0)
    have HB7 := bys_new w5 s 63 hl
    have HB73 : Bys (w5.alloc (.cells (bc s).toArray 63)) (some ⟨w5.heap.size, 0, none⟩) 3 (s.take 3) := by
      refine ⟨by rw [List.length_take, hl]; rfl, by decide, .inr ?_⟩
      obtain ⟨g, off, e, h1, h2⟩ := HB7.2.2.resolve_left (by decide)
      refine ⟨g, off, e, h1, fun j v hj => h2 j v ?_⟩
      have hbt : bc (s.take 3) = (bc s).take 3 := by simp [bc, List.map_take]
      rw [hbt, List.getElem?_take] at hj
      split at hj
      · exact hj
      · cases hj
    have hcv := conv_any HB73 64
    rw [hs3] at hcv
    unfold st at hcv
    have B7 := Lib.hid (B5.out.alloc B5.out.size (.cells (bc s).toArray 63))
    clear hs hs0 hs3 hmay HB7 HB73 hl
    go_wp2
    go_ret
    exact ⟨rfl, B7.out⟩
end Go.Proofs.Ytpgoacemjpobjaa
