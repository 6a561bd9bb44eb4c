/- The walk of PlatterAll. Conditions: the script lies in memory. -/
import Derived.Test.YtpgoacemjpobjaaQk
namespace Go.Proofs.Ytpgoacemjpobjaa
open Go Go.RowKit
set_option linter.unusedVariables false
set_option linter.unusedSimpArgs false

set_option maxHeartbeats 1000000 in
theorem all_core (W : World) (m : Int) (a : Option Addr) (len cap : Nat) (xs : List In4) (hO : OpsAt W a len xs) (hm : len ≤ maxLen) :
    Calls Try.prog 3 #[.int .i64 m, .slice a len cap] W fun e W' => e = .returned (.bool true) ∧ Below W.heap.size W W' := by
  unfold maxLen at hm
  by_cases h1 : 60 < m
  · clear hO
    go_enter Try.func3, Try.ntmps3
    go_wp2_with fail
    refine (alive_any W).mono ?_
    rintro e w2 ⟨rfl, b2⟩
    go_wp2
    go_ret
    exact ⟨rfl, b2⟩
  by_cases h2 : 200 < len
  · have h2' : (200 : Int) < (len : Int) := by omega
    clear hO h2
    go_enter Try.func3, Try.ntmps3
    go_wp2_with fail
    refine (alive_any W).mono ?_
    rintro e w2 ⟨rfl, b2⟩
    go_wp2
    go_ret
    exact ⟨rfl, b2⟩
  · have h2' : ¬ (200 : Int) < (len : Int) := by omega
    have C1 := Lib.hid (plays_any (w := W) m (by omega) a len cap xs hO (by omega))
    clear hO h2
    go_enter Try.func3, Try.ntmps3
    go_wp2_with fail
    refine C1.out.mono ?_
    rintro e w1 ⟨n, V, af, aw, cf, cw, rfl, hD, hR, b1⟩
    unfold rdv
    generalize playD xs (newD m) = D
    have B1 := Lib.hid (b1.alloc b1.size (.cells #[.slice af D.firm.length cf, .slice aw D.wait.length cw, .int .i64 D.armed, .bool D.dead] 28))
    clear hD hR b1 C1
    go_wp2_with fail
    generalize w1.alloc (.cells #[.slice af D.firm.length cf, .slice aw D.wait.length cw, .int .i64 D.armed, .bool D.dead] 28) = w2 at B1 ⊢
    refine (alive_any w2).mono ?_
    rintro e w3 ⟨rfl, b3⟩
    have B3 := Lib.hid (B1.out.trans (b3.mono B1.out.size))
    clear b3
    go_wp2
    go_ret
    exact ⟨rfl, B3.out⟩
theorem platterAll_walk {H : Type} {enc : TypeId × Value → H} {base : Nat} {p1 : List MemPlace} (W : World) (a0 : Int) (_w0 : (Lit.int .i64 a0).wf = true) (v1 : Value) (d1 : DataW H) (hv : Value.okWide Try.prog W .any base 22 v1) (h : DataW.Trod enc Try.prog W 0 (fun _ => true) true 22 v1 d1 p1) (_b : ∀ n ∈ d1.weights Try.prog 22, n ≤ 140737488351232) :
    Calls Try.prog 3 #[.int .i64 a0, v1] W fun e W' => e = .returned (.bool true) ∧ Below W.heap.size W W' := by
  obtain ⟨a, len, cap, xs, rfl, hP, h1, h2⟩ := open_ops hv h
  exact all_core W a0 a len cap xs hP (by omega)
end Go.Proofs.Ytpgoacemjpobjaa
