/- porter: an answer as the document's. Conditions: none. -/
import Derived.Test.YtlkilkndjfcejaaSa
namespace Go.Proofs.Ytlkilkndjfcejaa
open Go Go.RowKit
set_option linter.unusedVariables false
set_option linter.unusedSimpArgs false
variable {w w' : World}

set_option maxRecDepth 100000 in
set_option maxHeartbeats 8000000 in
theorem plain_any (a : An) : Calls Try.prog 38 #[.agg (ac a)] w fun e w' => e = .returned (.agg (ac a)) ∧ Below w.heap.size w w' := by
  have HA := Lib.hid (box1 w #[.int .i64 a.co, .int .i64 a.h1, .int .i64 a.h2, .string a.b, .int .i64 a.i1, .int .i64 a.i2, .int .i64 a.i3, .int .i64 a.i4, .int .i64 a.i5, .int .i64 a.i6, .int .i64 a.i7, .int .i64 a.i8, .slice a.na a.nl a.nc] 71 42 #[.int .i64 0, .int .i64 0, .int .i64 0, .string ⟨#[]⟩, .int .i64 0, .int .i64 0, .int .i64 0, .int .i64 0, .int .i64 0, .int .i64 0, .int .i64 0, .int .i64 0, .slice none 0 0])
  have HZ := Lib.hid (box2 w (.cells #[.int .i64 a.co, .int .i64 a.h1, .int .i64 a.h2, .string a.b, .int .i64 a.i1, .int .i64 a.i2, .int .i64 a.i3, .int .i64 a.i4, .int .i64 a.i5, .int .i64 a.i6, .int .i64 a.i7, .int .i64 a.i8, .slice a.na a.nl a.nc] 71) #[.int .i64 0, .int .i64 0, .int .i64 0, .string ⟨#[]⟩, .int .i64 0, .int .i64 0, .int .i64 0, .int .i64 0, .int .i64 0, .int .i64 0, .int .i64 0, .int .i64 0, .slice none 0 0] 42)
  have B0 := Lib.hid (((Below.refl w.heap.size w).alloc (Nat.le_refl _) (.cells #[.int .i64 a.co, .int .i64 a.h1, .int .i64 a.h2, .string a.b, .int .i64 a.i1, .int .i64 a.i2, .int .i64 a.i3, .int .i64 a.i4, .int .i64 a.i5, .int .i64 a.i6, .int .i64 a.i7, .int .i64 a.i8, .slice a.na a.nl a.nc] 71)).alloc (by simp) (.cells #[.int .i64 0, .int .i64 0, .int .i64 0, .string ⟨#[]⟩, .int .i64 0, .int .i64 0, .int .i64 0, .int .i64 0, .int .i64 0, .int .i64 0, .int .i64 0, .int .i64 0, .slice none 0 0] 42))
  go_enter Try.func38, Try.ntmps38
  go_upto_region 1 with (fail)
  generalize (w.alloc (.cells #[.int .i64 a.co, .int .i64 a.h1, .int .i64 a.h2, .string a.b, .int .i64 a.i1, .int .i64 a.i2, .int .i64 a.i3, .int .i64 a.i4, .int .i64 a.i5, .int .i64 a.i6, .int .i64 a.i7, .int .i64 a.i8, .slice a.na a.nl a.nc] 71)).alloc (.cells #[.int .i64 0, .int .i64 0, .int .i64 0, .string ⟨#[]⟩, .int .i64 0, .int .i64 0, .int .i64 0, .int .i64 0, .int .i64 0, .int .i64 0, .int .i64 0, .int .i64 0, .slice none 0 0] 42) = W2 at HA HZ B0 ⊢
  have hs := HZ.out.lt
  have HN := Lib.hid (Box.new W2 69 #[.int .i64 0, .int .i64 0, .int .i64 0, .int .i64 0, .int .i64 0, .int .i64 0, .int .i64 0, .int .i64 0])
  have HQ := Lib.hid ((Box.new W2 69 #[.int .i64 0, .int .i64 0, .int .i64 0, .int .i64 0, .int .i64 0, .int .i64 0, .int .i64 0, .int .i64 0]).setRow #[.int .i64 a.i1, .int .i64 a.i2, .int .i64 a.i3, .int .i64 a.i4, .int .i64 a.i5, .int .i64 a.i6, .int .i64 a.i7, .int .i64 a.i8])
  have HA1 := Lib.hid ((HA.out.alloc (.cells #[.int .i64 0, .int .i64 0, .int .i64 0, .int .i64 0, .int .i64 0, .int .i64 0, .int .i64 0, .int .i64 0] 69)).setRow_other #[.int .i64 a.i1, .int .i64 a.i2, .int .i64 a.i3, .int .i64 a.i4, .int .i64 a.i5, .int .i64 a.i6, .int .i64 a.i7, .int .i64 a.i8] (show w.heap.size ≠ W2.heap.size by omega))
  have HZ1 := Lib.hid ((HZ.out.alloc (.cells #[.int .i64 0, .int .i64 0, .int .i64 0, .int .i64 0, .int .i64 0, .int .i64 0, .int .i64 0, .int .i64 0] 69)).setRow_other #[.int .i64 a.i1, .int .i64 a.i2, .int .i64 a.i3, .int .i64 a.i4, .int .i64 a.i5, .int .i64 a.i6, .int .i64 a.i7, .int .i64 a.i8] (show w.heap.size + 1 ≠ W2.heap.size by omega))
  have B1 := Lib.hid (Below.setRow (B0.out.alloc B0.out.size (.cells #[.int .i64 0, .int .i64 0, .int .i64 0, .int .i64 0, .int .i64 0, .int .i64 0, .int .i64 0, .int .i64 0] 69)) (g := W2.heap.size) (by omega) #[.int .i64 a.i1, .int .i64 a.i2, .int .i64 a.i3, .int .i64 a.i4, .int .i64 a.i5, .int .i64 a.i6, .int .i64 a.i7, .int .i64 a.i8])
  go_upto_region 2 with (first | (refine wpList_load_box rfl 69 (.tmp 4) rfl _ 4 rfl HA.out [.int .i64 a.i1, .int .i64 a.i2, .int .i64 a.i3, .int .i64 a.i4, .int .i64 a.i5, .int .i64 a.i6, .int .i64 a.i7, .int .i64 a.i8] (by kernel_rfl) Try.underlying69 rfl (by kernel_rfl) ?_) | (refine wpList_store_box rfl 69 (.tmp 3) (.tmp 5) rfl rfl _ 0 rfl [.int .i64 a.i1, .int .i64 a.i2, .int .i64 a.i3, .int .i64 a.i4, .int .i64 a.i5, .int .i64 a.i6, .int .i64 a.i7, .int .i64 a.i8] rfl HN.out #[.int .i64 a.i1, .int .i64 a.i2, .int .i64 a.i3, .int .i64 a.i4, .int .i64 a.i5, .int .i64 a.i6, .int .i64 a.i7, .int .i64 a.i8] (by kernel_rfl) (by kernel_rfl) (by kernel_rfl) (by kernel_rfl) ?_))
  generalize (W2.alloc (.cells #[.int .i64 0, .int .i64 0, .int .i64 0, .int .i64 0, .int .i64 0, .int .i64 0, .int .i64 0, .int .i64 0] 69)).setRow W2.heap.size #[.int .i64 a.i1, .int .i64 a.i2, .int .i64 a.i3, .int .i64 a.i4, .int .i64 a.i5, .int .i64 a.i6, .int .i64 a.i7, .int .i64 a.i8] = W3 at HQ HA1 HZ1 B1 ⊢
  have c0 : W3.cell? ⟨w.heap.size, 0, none⟩ = some (.int .i64 a.co) := HA1.out.cell 0
  have c1 : W3.cell? ⟨w.heap.size, 1, none⟩ = some (.int .i64 a.h1) := HA1.out.cell 1
  have c2 : W3.cell? ⟨w.heap.size, 2, none⟩ = some (.int .i64 a.h2) := HA1.out.cell 2
  have c3 : W3.cell? ⟨w.heap.size, 3, none⟩ = some (.string a.b) := HA1.out.cell 3
  have c12 : W3.cell? ⟨w.heap.size, 12, none⟩ = some (.slice a.na a.nl a.nc) := HA1.out.cell 12
  have q0 : W3.cell? ⟨W2.heap.size, 0, none⟩ = some (.int .i64 a.i1) := HQ.out.cell 0
  have q1 : W3.cell? ⟨W2.heap.size, 1, none⟩ = some (.int .i64 a.i2) := HQ.out.cell 1
  have q2 : W3.cell? ⟨W2.heap.size, 2, none⟩ = some (.int .i64 a.i3) := HQ.out.cell 2
  have q3 : W3.cell? ⟨W2.heap.size, 3, none⟩ = some (.int .i64 a.i4) := HQ.out.cell 3
  have q4 : W3.cell? ⟨W2.heap.size, 4, none⟩ = some (.int .i64 a.i5) := HQ.out.cell 4
  have q5 : W3.cell? ⟨W2.heap.size, 5, none⟩ = some (.int .i64 a.i6) := HQ.out.cell 5
  have q6 : W3.cell? ⟨W2.heap.size, 6, none⟩ = some (.int .i64 a.i7) := HQ.out.cell 6
  have q7 : W3.cell? ⟨W2.heap.size, 7, none⟩ = some (.int .i64 a.i8) := HQ.out.cell 7
  have hal := HA1.out.lt
  have hql := HQ.out.lt
  go_wp2_with (refine wpList_store_box rfl 42 (.tmp 2) (.tmp 33) rfl rfl _ 0 rfl [.int .i64 a.co, .int .i64 a.h1, .int .i64 a.h2, .string a.b, .int .i64 a.i1, .int .i64 a.i2, .int .i64 a.i3, .int .i64 a.i4, .int .i64 a.i5, .int .i64 a.i6, .int .i64 a.i7, .int .i64 a.i8, .slice a.na a.nl a.nc] rfl HZ1.out #[.int .i64 a.co, .int .i64 a.h1, .int .i64 a.h2, .string a.b, .int .i64 a.i1, .int .i64 a.i2, .int .i64 a.i3, .int .i64 a.i4, .int .i64 a.i5, .int .i64 a.i6, .int .i64 a.i7, .int .i64 a.i8, .slice a.na a.nl a.nc] (by kernel_rfl) (by kernel_rfl) (by kernel_rfl) (by kernel_rfl) ?_)
  exact ret_c Try.results38 rfl rfl ((HZ1.out.setRow _).load Try.underlying42 rfl (by kernel_rfl)) ⟨rfl, Below.setRow B1.out (by omega) _⟩
end Go.Proofs.Ytlkilkndjfcejaa
