/- porter: PorterOnce, as a whole. Conditions: none. -/
import Derived.Test.YtlkilkndjfcejaaTm
namespace Go.Proofs.Ytlkilkndjfcejaa
open Go Go.RowKit Go.ChangeShapes Go.WideShapes Go.ChangeAt
set_option linter.unusedVariables false
set_option linter.unusedSimpArgs false
variable {w w' : World}

theorem once_new (W : World) (cl pa : Int) (a ar : Option Addr) (cap lr cr : Nat) (zs : List Int) (h : Ints .i64 W a zs.length zs) (hm : zs.length ≤ maxLen) (hy : newB cl zs pa = false) (hlr : lr ≤ maxLen) :
    Calls Try.prog 3 #[.agg #[.int .i64 cl, .slice a zs.length cap, .int .i64 pa], .slice ar lr cr] W fun e w' => e = .returned (.bool true) ∧ Below W.heap.size W w' := by
  have B0 := Lib.hid ((Below.refl W.heap.size W).alloc (Nat.le_refl _) (.cells #[.int .i64 cl, .slice a zs.length cap, .int .i64 pa] 24))
  have C0 := Lib.hid (new_no _ cl pa a zs.length cap zs (h.below B0.out) hy hm)
  unfold maxLen at hlr
  clear h hy hm
  go_enter Try.func3, Try.ntmps3
  go_wp2_with fail
  refine C0.out.mono ?_
  rintro e w1 ⟨rfl, b1⟩
  have B1 := Lib.hid (B0.out.trans (b1.mono B0.out.size))
  clear b1 B0 C0
  go_wp2_with fail
  refine (alive_any _).mono ?_
  rintro e w2 ⟨rfl, b2⟩
  go_wp2
  go_ret
  exact ⟨rfl, B1.out.trans (b2.mono B1.out.size)⟩
theorem once_early (W : World) (cl pa : Int) (x : Addr) (ar : Option Addr) (cap lr cr : Nat) (zs : List Int) (h : Ints .i64 W (some x) zs.length zs) (hy : newB cl zs pa = true) (hlr : lr ≤ maxLen) (h5 : ¬ lr ≤ 500) :
    Calls Try.prog 3 #[.agg #[.int .i64 cl, .slice (some x) zs.length cap, .int .i64 pa], .slice ar lr cr] W fun e w' => e = .returned (.bool true) ∧ Below W.heap.size W w' := by
  have B0 := Lib.hid ((Below.refl W.heap.size W).alloc (Nat.le_refl _) (.cells #[.int .i64 cl, .slice (some x) zs.length cap, .int .i64 pa] 24))
  have C0 := new_yes _ cl pa x zs.length cap zs (h.below B0.out) hy
  unfold NewPost at C0
  unfold maxLen at hlr
  have C0 := Lib.hid C0
  have h6 : (500 : Int) < (lr : Int) := by omega
  clear h hy h5
  go_enter Try.func3, Try.ntmps3
  go_wp2_with fail
  refine C0.out.mono ?_
  rintro e w1 ⟨n, U, rfl, hP, b1⟩
  have B1 := Lib.hid (B0.out.trans (b1.mono B0.out.size))
  have hne := ptr_ne n
  clear hP b1 C0 B0
  go_wp2_with fail
  refine (alive_any _).mono ?_
  rintro e w4 ⟨rfl, b4⟩
  go_wp2
  go_ret
  exact ⟨rfl, B1.out.trans (b4.mono B1.out.size)⟩
theorem once_core (W : World) (cl pa : Int) (a ar : Option Addr) (len cap lr cr : Nat) (zs : List Int) (os : List Op21) (h : Ints .i64 W a len zs) (hr : OpsAt W ar lr os) (hlm : lr ≤ maxLen) :
    Calls Try.prog 3 #[.agg #[.int .i64 cl, .slice a len cap, .int .i64 pa], .slice ar lr cr] W fun e w' => e = .returned (.bool true) ∧ Below W.heap.size W w' := by
  obtain rfl := h.1
  cases hy : newB cl zs pa
  · exact once_new W cl pa a ar cap lr cr zs h h.2.2.1 hy hlm
  · have hzl : 0 < zs.length := (newS_ok cl zs pa hy).fit.vol
    obtain ⟨b, off, rfl, _⟩ := h.at_ 0 zs[0] (List.getElem?_eq_getElem hzl)
    by_cases h5 : lr ≤ 500
    · exact once_main W cl pa _ ar cap lr cr zs os h hy hr h5
    · exact once_early W cl pa _ ar cap lr cr zs h hy hlm h5
set_option maxRecDepth 100000 in
theorem porterOnce_walk {H : Type} {enc : TypeId × Value → H} {base0 base2 : Nat} {p0 p2 : List MemPlace} (W : World) (v0 : Value) (d0 : DataW H) (hv : Value.okWide Try.prog W .any base0 24 v0) (h : DataW.Trod enc Try.prog W 0 (fun _ => true) true 24 v0 d0 p0) (_b : ∀ n ∈ d0.weights Try.prog 24, n ≤ 140737488351232)
    (v2 : Value) (d2 : DataW H) (hv2 : Value.okWide Try.prog W .any base2 25 v2) (h2 : DataW.Trod enc Try.prog W 0 (fun _ => true) true 25 v2 d2 p2) (_b2 : ∀ n ∈ d2.weights Try.prog 25, n ≤ 140737488351232) : Calls Try.prog 3 #[v0, v2] W fun e W' => e = .returned (.bool true) ∧ Below W.heap.size W W' := by
  obtain ⟨cl, pa, a, len, cap, zs, rfl, hI⟩ := who_open hv h
  obtain ⟨ar, lr, cr, os, rfl, hR, h1, h3⟩ := open_ops hv2 h2
  exact once_core W cl pa a ar len cap lr cr zs os hI hR (Nat.le_trans h1 h3)
end Go.Proofs.Ytlkilkndjfcejaa
