/- ledger: seal's mark and its sector; what seal answers, in plain words. Conditions: none. -/
import Derived.Test.YtdiboicllolcnaaLj
namespace Go.Proofs.Ytdiboicllolcnaa
open Go Go.RowKit
set_option linter.unusedVariables false
set_option linter.unusedSimpArgs false
variable {w w' : World} {base n nd b0 : Nat} {V V' : Vl} {VD VD' : Vs} {D D' : Dk} {G G' : Lg}
/-- the number behind a mark's. -/
def nextM (m : Nat) : Nat := (m + 1) % 18446744073709551616
theorem nextM_lt (m : Nat) : nextM m < 18446744073709551616 := Nat.mod_lt _ (by decide)
theorem nextM_wrap (m : Nat) : IntKind.u64.wrap ((m : Int) + 1) = (nextM m : Int) := by unfold nextM; rw [IntKind.wrap_u64]; omega
theorem nextM_small {m : Nat} (h : m < 18446744073709551615) : nextM m = m + 1 := Nat.mod_eq_of_lt (by omega)
/-- a mark's sector. -/
def markS (m half firm : Nat) : Sec := be8 m ++ [UInt8.ofNat half] ++ be4 firm ++ List.replicate 43 0 ++ be8 m
theorem markS_len (m half firm : Nat) : (markS m half firm).length = 64 := by
  unfold markS
  simp [be8, be4]
/-- what seal does to the disk; false: it died. -/
def sealR (D : Dk) (G : Lg) (half firm : Nat) : Dk × Bool :=
  if syncE D ≠ 0 then (syncD D, false)
  else if wrE (syncD D) ((G.from_ + nextM G.mark % 2 : Nat) : Int) 64 ≠ 0 then (wrD (syncD D) ((G.from_ + nextM G.mark % 2 : Nat) : Int) (markS (nextM G.mark) half firm), false)
  else (syncD (wrD (syncD D) ((G.from_ + nextM G.mark % 2 : Nat) : Int) (markS (nextM G.mark) half firm)), decide (syncE (wrD (syncD D) ((G.from_ + nextM G.mark % 2 : Nat) : Int) (markS (nextM G.mark) half firm)) = 0))
def sealG (D : Dk) (G : Lg) (half firm : Nat) : Lg := if (sealR D G half firm).2 then { G with mark := nextM G.mark, half := half, firm := firm } else { G with dead := true }
/-- what seal answers. -/
def SealPost (w : World) (base n nd : Nat) (V : Vl) (VD : Vs) (D : Dk) (G : Lg) (half firm : Nat) (e : Ending) (w' : World) : Prop :=
  ∃ VD', e = .returned (.int .i64 (if (sealR D G half firm).2 then 0 else 40)) ∧ Ldg w' base n nd V VD' (sealR D G half firm).1 (sealG D G half firm) ∧ GoesL w w' n nd V V VD VD'
end Go.Proofs.Ytdiboicllolcnaa
