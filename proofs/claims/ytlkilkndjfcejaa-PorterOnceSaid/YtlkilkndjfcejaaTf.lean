/- porter: an answer is the same as itself. Conditions: its names can be read. -/
import Derived.Test.YtlkilkndjfcejaaTe
import Derived.Deep.QuietTactic
import Derived.BigQuiet
namespace Go.Proofs.Ytlkilkndjfcejaa
open Go Go.RowKit
set_option linter.unusedVariables false
set_option linter.unusedSimpArgs false
variable {w w' : World}

/-- what SameAnswer has in memory. -/
structure Sa (w W : World) (a : An) : Prop where
  l : Box W w.heap.size 42 (ac a)
  r : Box W (w.heap.size + 1) 42 (ac a)
  b : Below w.heap.size w W
theorem Sa.drewN {W : World} {a : An} (h : Sa w W a) (n : Nat) : Sa w (W.drewN n) a := ⟨h.l, h.r, Below.drewN h.b n⟩
set_option maxRecDepth 100000 in
set_option maxHeartbeats 8000000 in
theorem same_any (a : An) (h : Strs w a) : Calls Try.prog 37 #[.agg (ac a), .agg (ac a)] w fun e w' => e = .returned (.bool true) ∧ Below w.heap.size w w' := by
  have HS := Lib.hid h
  have hnl := h.1
  unfold maxLen at hnl
  have HT := Lib.hid (show Sa w ((w.alloc (.cells #[.int .i64 a.co, .int .i64 a.h1, .int .i64 a.h2, .string a.b, .int .i64 a.i1, .int .i64 a.i2, .int .i64 a.i3, .int .i64 a.i4, .int .i64 a.i5, .int .i64 a.i6, .int .i64 a.i7, .int .i64 a.i8, .slice a.na a.nl a.nc] 42)).alloc (.cells #[.int .i64 a.co, .int .i64 a.h1, .int .i64 a.h2, .string a.b, .int .i64 a.i1, .int .i64 a.i2, .int .i64 a.i3, .int .i64 a.i4, .int .i64 a.i5, .int .i64 a.i6, .int .i64 a.i7, .int .i64 a.i8, .slice a.na a.nl a.nc] 42)) a from ⟨box1 w #[.int .i64 a.co, .int .i64 a.h1, .int .i64 a.h2, .string a.b, .int .i64 a.i1, .int .i64 a.i2, .int .i64 a.i3, .int .i64 a.i4, .int .i64 a.i5, .int .i64 a.i6, .int .i64 a.i7, .int .i64 a.i8, .slice a.na a.nl a.nc] 42 42 #[.int .i64 a.co, .int .i64 a.h1, .int .i64 a.h2, .string a.b, .int .i64 a.i1, .int .i64 a.i2, .int .i64 a.i3, .int .i64 a.i4, .int .i64 a.i5, .int .i64 a.i6, .int .i64 a.i7, .int .i64 a.i8, .slice a.na a.nl a.nc], box2 w (.cells #[.int .i64 a.co, .int .i64 a.h1, .int .i64 a.h2, .string a.b, .int .i64 a.i1, .int .i64 a.i2, .int .i64 a.i3, .int .i64 a.i4, .int .i64 a.i5, .int .i64 a.i6, .int .i64 a.i7, .int .i64 a.i8, .slice a.na a.nl a.nc] 42) #[.int .i64 a.co, .int .i64 a.h1, .int .i64 a.h2, .string a.b, .int .i64 a.i1, .int .i64 a.i2, .int .i64 a.i3, .int .i64 a.i4, .int .i64 a.i5, .int .i64 a.i6, .int .i64 a.i7, .int .i64 a.i8, .slice a.na a.nl a.nc] 42, ((Below.refl w.heap.size w).alloc (Nat.le_refl _) _).alloc (by simp) _⟩)
  clear h
  go_enter Try.func37, Try.ntmps37
  go_upto_region 1 with (fail)
  refine wp_name (fun W => Sa w W a) HT.out ?_
  clear HT
  rintro W hT
  have HT := Lib.hid hT
  have l0 : W.cell? ⟨w.heap.size, 0, none⟩ = some (.int .i64 a.co) := hT.l.cell 0
  have r0 : W.cell? ⟨w.heap.size + 1, 0, none⟩ = some (.int .i64 a.co) := hT.r.cell 0
  have l1 : W.cell? ⟨w.heap.size, 1, none⟩ = some (.int .i64 a.h1) := hT.l.cell 1
  have r1 : W.cell? ⟨w.heap.size + 1, 1, none⟩ = some (.int .i64 a.h1) := hT.r.cell 1
  have l2 : W.cell? ⟨w.heap.size, 2, none⟩ = some (.int .i64 a.h2) := hT.l.cell 2
  have r2 : W.cell? ⟨w.heap.size + 1, 2, none⟩ = some (.int .i64 a.h2) := hT.r.cell 2
  have l3 : W.cell? ⟨w.heap.size, 3, none⟩ = some (.string a.b) := hT.l.cell 3
  have r3 : W.cell? ⟨w.heap.size + 1, 3, none⟩ = some (.string a.b) := hT.r.cell 3
  have l4 : W.cell? ⟨w.heap.size, 4, none⟩ = some (.int .i64 a.i1) := hT.l.cell 4
  have r4 : W.cell? ⟨w.heap.size + 1, 4, none⟩ = some (.int .i64 a.i1) := hT.r.cell 4
  have l5 : W.cell? ⟨w.heap.size, 5, none⟩ = some (.int .i64 a.i2) := hT.l.cell 5
  have r5 : W.cell? ⟨w.heap.size + 1, 5, none⟩ = some (.int .i64 a.i2) := hT.r.cell 5
  have l6 : W.cell? ⟨w.heap.size, 6, none⟩ = some (.int .i64 a.i3) := hT.l.cell 6
  have r6 : W.cell? ⟨w.heap.size + 1, 6, none⟩ = some (.int .i64 a.i3) := hT.r.cell 6
  have l7 : W.cell? ⟨w.heap.size, 7, none⟩ = some (.int .i64 a.i4) := hT.l.cell 7
  have r7 : W.cell? ⟨w.heap.size + 1, 7, none⟩ = some (.int .i64 a.i4) := hT.r.cell 7
  have l8 : W.cell? ⟨w.heap.size, 8, none⟩ = some (.int .i64 a.i5) := hT.l.cell 8
  have r8 : W.cell? ⟨w.heap.size + 1, 8, none⟩ = some (.int .i64 a.i5) := hT.r.cell 8
  have l9 : W.cell? ⟨w.heap.size, 9, none⟩ = some (.int .i64 a.i6) := hT.l.cell 9
  have r9 : W.cell? ⟨w.heap.size + 1, 9, none⟩ = some (.int .i64 a.i6) := hT.r.cell 9
  have l10 : W.cell? ⟨w.heap.size, 10, none⟩ = some (.int .i64 a.i7) := hT.l.cell 10
  have r10 : W.cell? ⟨w.heap.size + 1, 10, none⟩ = some (.int .i64 a.i7) := hT.r.cell 10
  have l11 : W.cell? ⟨w.heap.size, 11, none⟩ = some (.int .i64 a.i8) := hT.l.cell 11
  have r11 : W.cell? ⟨w.heap.size + 1, 11, none⟩ = some (.int .i64 a.i8) := hT.r.cell 11
  have l12 : W.cell? ⟨w.heap.size, 12, none⟩ = some (.slice a.na a.nl a.nc) := hT.l.cell 12
  have r12 : W.cell? ⟨w.heap.size + 1, 12, none⟩ = some (.slice a.na a.nl a.nc) := hT.r.cell 12
  have hal := hT.l.lt
  have hrl := hT.r.lt
  clear hT
  go_wp2_with fail
  clear l0 r0 l1 r1 l2 r2 l3 r3 l4 r4 l5 r5 l6 r6 l7 r7 l8 r8 l9 r9 l10 r10 l11 r11 l12 r12 hal hrl
  go_loopw [5] (fun i wr => ∃ k : Nat, k ≤ a.nl ∧ i = .int .i64 k ∧ Sa w wr a) (fun i _ => a.nl - (intOf i).toNat)
  case atStart => exact ⟨0, Nat.zero_le _, rfl, HT.out⟩
  case round =>
    obtain ⟨k, hk, rfl, hT⟩ := hrel
    have l12 : wr.cell? ⟨w.heap.size, 12, none⟩ = some (.slice a.na a.nl a.nc) := hT.l.cell 12
    have r12 : wr.cell? ⟨w.heap.size + 1, 12, none⟩ = some (.slice a.na a.nl a.nc) := hT.r.cell 12
    have hal := hT.l.lt
    have hrl := hT.r.lt
    by_cases hlt : k < a.nl
    · obtain ⟨b, off, e, hbl, hc⟩ := HS.out.2.resolve_left (by omega)
      obtain ⟨t, ht⟩ := hc k hlt
      have hs : wr.cell? ⟨b, off + k, none⟩ = some (.string t) := (hT.b.cell (p := ⟨b, off + k, none⟩) hbl).trans ht
      have hbl2 := World.block_lt_of_cell? _ _ hs
      rw [e] at l12 r12
      have HT1 := Lib.hid hT
      clear hT e hc ht
      go_wp2_with fail
      go_quiet (fail)
      go_wp2_with fail
      go_roundw
      case rel => exact ⟨k + 1, by omega, by go_num, HT1.out.drewN nq⟩
      case measure => simp [intOf]; omega
    · have HT1 := Lib.hid hT
      clear hT
      go_wp2
      go_ret
      exact ⟨rfl, HT1.out.b⟩
end Go.Proofs.Ytlkilkndjfcejaa
