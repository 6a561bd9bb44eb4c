/- porter: a call as the program's, an answer as the document's. Conditions: none. -/
import Derived.Test.YtlkilkndjfcejaaRe
namespace Go.Proofs.Ytlkilkndjfcejaa
open Go Go.RowKit
set_option linter.unusedVariables false
set_option linter.unusedSimpArgs false
variable {w w' : World}

set_option maxRecDepth 100000 in
set_option maxHeartbeats 8000000 in
theorem own_any (c : Cl) : Calls Try.prog 12 #[.agg (cc c)] w fun e w' => e = .returned (.agg (cc c)) ∧ Below w.heap.size w w' := by
  have HA := Lib.hid (box1 w #[.int .i64 c.cl, .int .i64 c.nu, .int .i64 c.kd, .int .i64 c.h1, .int .i64 c.h2, .int .i64 c.g1, .int .i64 c.g2, .string c.nm, .string c.ot, .int .i64 c.m1, .int .i64 c.m2, .int .i64 c.m3, .string c.mt, .bool c.fo, .int .i64 c.aa, .int .i64 c.nn, .int .i64 c.tt, .string c.bb] 36 52 #[.int .i64 0, .int .i64 0, .int .i64 0, .int .i64 0, .int .i64 0, .int .i64 0, .int .i64 0, .string ⟨#[]⟩, .string ⟨#[]⟩, .int .i64 0, .int .i64 0, .int .i64 0, .string ⟨#[]⟩, .bool false, .int .i64 0, .int .i64 0, .int .i64 0, .string ⟨#[]⟩])
  have HZ := Lib.hid (box2 w (.cells #[.int .i64 c.cl, .int .i64 c.nu, .int .i64 c.kd, .int .i64 c.h1, .int .i64 c.h2, .int .i64 c.g1, .int .i64 c.g2, .string c.nm, .string c.ot, .int .i64 c.m1, .int .i64 c.m2, .int .i64 c.m3, .string c.mt, .bool c.fo, .int .i64 c.aa, .int .i64 c.nn, .int .i64 c.tt, .string c.bb] 36) #[.int .i64 0, .int .i64 0, .int .i64 0, .int .i64 0, .int .i64 0, .int .i64 0, .int .i64 0, .string ⟨#[]⟩, .string ⟨#[]⟩, .int .i64 0, .int .i64 0, .int .i64 0, .string ⟨#[]⟩, .bool false, .int .i64 0, .int .i64 0, .int .i64 0, .string ⟨#[]⟩] 52)
  have B0 := Lib.hid (((Below.refl w.heap.size w).alloc (Nat.le_refl _) (.cells #[.int .i64 c.cl, .int .i64 c.nu, .int .i64 c.kd, .int .i64 c.h1, .int .i64 c.h2, .int .i64 c.g1, .int .i64 c.g2, .string c.nm, .string c.ot, .int .i64 c.m1, .int .i64 c.m2, .int .i64 c.m3, .string c.mt, .bool c.fo, .int .i64 c.aa, .int .i64 c.nn, .int .i64 c.tt, .string c.bb] 36)).alloc (by simp) (.cells #[.int .i64 0, .int .i64 0, .int .i64 0, .int .i64 0, .int .i64 0, .int .i64 0, .int .i64 0, .string ⟨#[]⟩, .string ⟨#[]⟩, .int .i64 0, .int .i64 0, .int .i64 0, .string ⟨#[]⟩, .bool false, .int .i64 0, .int .i64 0, .int .i64 0, .string ⟨#[]⟩] 52))
  go_enter Try.func12, Try.ntmps12
  go_upto_region 1 with (fail)
  generalize (w.alloc (.cells #[.int .i64 c.cl, .int .i64 c.nu, .int .i64 c.kd, .int .i64 c.h1, .int .i64 c.h2, .int .i64 c.g1, .int .i64 c.g2, .string c.nm, .string c.ot, .int .i64 c.m1, .int .i64 c.m2, .int .i64 c.m3, .string c.mt, .bool c.fo, .int .i64 c.aa, .int .i64 c.nn, .int .i64 c.tt, .string c.bb] 36)).alloc (.cells #[.int .i64 0, .int .i64 0, .int .i64 0, .int .i64 0, .int .i64 0, .int .i64 0, .int .i64 0, .string ⟨#[]⟩, .string ⟨#[]⟩, .int .i64 0, .int .i64 0, .int .i64 0, .string ⟨#[]⟩, .bool false, .int .i64 0, .int .i64 0, .int .i64 0, .string ⟨#[]⟩] 52) = W2 at HA HZ B0 ⊢
  have c0 : W2.cell? ⟨w.heap.size, 0, none⟩ = some (.int .i64 c.cl) := HA.out.cell 0
  have c1 : W2.cell? ⟨w.heap.size, 1, none⟩ = some (.int .i64 c.nu) := HA.out.cell 1
  have c2 : W2.cell? ⟨w.heap.size, 2, none⟩ = some (.int .i64 c.kd) := HA.out.cell 2
  have c3 : W2.cell? ⟨w.heap.size, 3, none⟩ = some (.int .i64 c.h1) := HA.out.cell 3
  have c4 : W2.cell? ⟨w.heap.size, 4, none⟩ = some (.int .i64 c.h2) := HA.out.cell 4
  have c5 : W2.cell? ⟨w.heap.size, 5, none⟩ = some (.int .i64 c.g1) := HA.out.cell 5
  have c6 : W2.cell? ⟨w.heap.size, 6, none⟩ = some (.int .i64 c.g2) := HA.out.cell 6
  have c7 : W2.cell? ⟨w.heap.size, 7, none⟩ = some (.string c.nm) := HA.out.cell 7
  have c8 : W2.cell? ⟨w.heap.size, 8, none⟩ = some (.string c.ot) := HA.out.cell 8
  have c9 : W2.cell? ⟨w.heap.size, 9, none⟩ = some (.int .i64 c.m1) := HA.out.cell 9
  have c10 : W2.cell? ⟨w.heap.size, 10, none⟩ = some (.int .i64 c.m2) := HA.out.cell 10
  have c11 : W2.cell? ⟨w.heap.size, 11, none⟩ = some (.int .i64 c.m3) := HA.out.cell 11
  have c12 : W2.cell? ⟨w.heap.size, 12, none⟩ = some (.string c.mt) := HA.out.cell 12
  have c13 : W2.cell? ⟨w.heap.size, 13, none⟩ = some (.bool c.fo) := HA.out.cell 13
  have c14 : W2.cell? ⟨w.heap.size, 14, none⟩ = some (.int .i64 c.aa) := HA.out.cell 14
  have c15 : W2.cell? ⟨w.heap.size, 15, none⟩ = some (.int .i64 c.nn) := HA.out.cell 15
  have c16 : W2.cell? ⟨w.heap.size, 16, none⟩ = some (.int .i64 c.tt) := HA.out.cell 16
  have c17 : W2.cell? ⟨w.heap.size, 17, none⟩ = some (.string c.bb) := HA.out.cell 17
  have hal := HA.out.lt
  go_wp2_with (refine wpList_store_box rfl 52 (.tmp 2) (.tmp 29) rfl rfl _ 0 rfl [.int .i64 c.cl, .int .i64 c.nu, .int .i64 c.kd, .int .i64 c.h1, .int .i64 c.h2, .int .i64 c.g1, .int .i64 c.g2, .string c.nm, .string c.ot, .int .i64 c.m1, .int .i64 c.m2, .int .i64 c.m3, .string c.mt, .bool c.fo, .int .i64 c.aa, .int .i64 c.nn, .int .i64 c.tt, .string c.bb] rfl HZ.out #[.int .i64 c.cl, .int .i64 c.nu, .int .i64 c.kd, .int .i64 c.h1, .int .i64 c.h2, .int .i64 c.g1, .int .i64 c.g2, .string c.nm, .string c.ot, .int .i64 c.m1, .int .i64 c.m2, .int .i64 c.m3, .string c.mt, .bool c.fo, .int .i64 c.aa, .int .i64 c.nn, .int .i64 c.tt, .string c.bb] (by kernel_rfl) (by kernel_rfl) (by kernel_rfl) (by kernel_rfl) ?_)
  exact ret_c Try.results12 rfl rfl ((HZ.out.setRow _).load Try.underlying52 rfl (by kernel_rfl)) ⟨rfl, Below.setRow B0.out (by omega) _⟩
end Go.Proofs.Ytlkilkndjfcejaa
