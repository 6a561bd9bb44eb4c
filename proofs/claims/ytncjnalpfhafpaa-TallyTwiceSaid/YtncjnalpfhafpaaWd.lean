/- The walks of TallySums and TallyMores over arguments as they are opened. -/
import Derived.Test.YtncjnalpfhafpaaWc
import Derived.Test.YtncjnalpfhafpaaOpen
namespace Go.Proofs.Ytncjnalpfhafpaa
open Go.RowKit

theorem Bytes.of_ints {w : World} {a : Option Addr} {len : Nat} {zs : List Int} (h : Ints .u8 w a len zs) : Bytes w a len zs := by
  obtain ⟨h1, h2, h3, h4⟩ := h
  refine ⟨h1, fun n hn => ?_, h3, h4⟩
  have := h2 n hn
  simp [Lit.wf, IntKind.min, IntKind.max, IntKind.signed, IntKind.bits] at this
  omega
theorem bv_of_wf {n : Int} (h : (Lit.int .u32 n).wf = true) : ∃ c : BitVec 32, n = (c.toNat : Int) := by
  simp [Lit.wf, IntKind.min, IntKind.max, IntKind.signed, IntKind.bits] at h
  refine ⟨BitVec.ofNat 32 n.toNat, ?_⟩
  rw [BitVec.toNat_ofNat]
  omega

theorem tallySums_walk (W : World) (a : Option Addr) (len cap : Nat) (zs : List Int) (h : Ints .u8 W a len zs) (_hc : len ≤ cap) (_hb : len * 1 ≤ 140737488351232) :
    Calls Try.prog 3 #[.slice a len cap] W fun e W' => e = .returned (.bool true) ∧ Below W.heap.size W W' :=
  sums_walk a len cap zs W (.of_ints h)
theorem tallyMores_walk (W : World) (c : Int) (wc : (Lit.int .u32 c).wf = true) (a : Option Addr) (len cap : Nat) (zs : List Int) (h : Ints .u8 W a len zs) (_hc : len ≤ cap) (_hb : len * 1 ≤ 140737488351232) :
    Calls Try.prog 4 #[.int .u32 c, .slice a len cap] W fun e W' => e = .returned (.bool true) ∧ Below W.heap.size W W' := by
  obtain ⟨c, rfl⟩ := bv_of_wf wc
  exact mores_walk c a len cap zs W (.of_ints h)
end Go.Proofs.Ytncjnalpfhafpaa
