/- The walks of Sum, of alive, and of the laws of one text. Conditions: the bytes lie in memory. -/
import Derived.Test.YtncjnalpfhafpaaWb
import Derived.Lib.SlBytesConst
namespace Go.Proofs.Ytncjnalpfhafpaa
open Go.RowKit

theorem more0_any (a : Option Addr) (len cap : Nat) (zs : List Int) (w : World) (hB : Bytes w a len zs) :
    Calls Try.prog 13 #[.int .u32 0, .slice a len cap] w fun e w' => e = .returned (.int .u32 (Tally.sum zs).toNat) ∧ w = w' :=
  more_any 0#32 a len cap zs w hB
theorem rmore0_any (a : Option Addr) (len cap : Nat) (zs : List Int) (w : World) (hB : Bytes w a len zs) :
    Calls Try.prog 14 #[.int .u32 0, .slice a len cap] w fun e w' => e = .returned (.int .u32 (Tally.sum zs).toNat) ∧ w = w' :=
  rmore_any 0#32 a len cap zs w hB
theorem sum_any (a : Option Addr) (len cap : Nat) (zs : List Int) (w : World) (hB : Bytes w a len zs) :
    Calls Try.prog 11 #[.slice a len cap] w fun e w' => e = .returned (.int .u32 (Tally.sum zs).toNat) ∧ w = w' := by
  go_enter Try.func11, Try.ntmps11
  go_wp2_with (go_at_call 13; refine (more0_any _ _ _ zs _ hB).mono ?_; rintro e w' ⟨rfl, rfl⟩)
  go_ret
  exact ⟨rfl, rfl⟩
theorem rsum_any (a : Option Addr) (len cap : Nat) (zs : List Int) (w : World) (hB : Bytes w a len zs) :
    Calls Try.prog 12 #[.slice a len cap] w fun e w' => e = .returned (.int .u32 (Tally.sum zs).toNat) ∧ w = w' := by
  go_enter Try.func12, Try.ntmps12
  go_wp2_with (go_at_call 14; refine (rmore0_any _ _ _ zs _ hB).mono ?_; rintro e w' ⟨rfl, rfl⟩)
  go_ret
  exact ⟨rfl, rfl⟩

/-- a new row of bytes. -/
theorem bytes_new (w : World) (C : Array Value) (T : TypeId) (m : Nat × Nat) (zs : List Int) (hC : C = (zs.map (Value.int .u8)).toArray) (hz : ∀ n ∈ zs, 0 ≤ n ∧ n < 256) (hl : zs.length ≤ maxLen) :
    Bytes (w.alloc (.cells C T m)) (some ⟨w.heap.size, 0, none⟩) zs.length zs := by
  refine ⟨rfl, hz, hl, .inr ⟨_, _, rfl, fun i hi => ?_⟩⟩
  rw [World.cell?_alloc_mark, hC]
  simp [hi]
theorem Bytes.alloc {w : World} {a : Option Addr} {len : Nat} {zs : List Int} (h : Bytes w a len zs) (o : Obj) : Bytes (w.alloc o) a len zs := by
  obtain ⟨h1, h2, h3, h4⟩ := h
  refine ⟨h1, h2, h3, h4.imp id ?_⟩
  rintro ⟨b, off, rfl, hc⟩
  exact ⟨b, off, rfl, fun i hi => Lib.cell?_alloc_marked o (hc i hi)⟩

theorem Bytes.below {w w' : World} {a : Option Addr} {len : Nat} {zs : List Int} (h : Bytes w a len zs) (hb : Below w.heap.size w w') : Bytes w' a len zs := by
  obtain ⟨h1, h2, h3, h4⟩ := h
  refine ⟨h1, h2, h3, h4.imp id ?_⟩
  rintro ⟨b, off, rfl, hc⟩
  exact ⟨b, off, rfl, fun i hi => (hb.cell (World.block_lt_of_cell? _ _ (hc i hi))).trans (hc i hi)⟩

set_option maxRecDepth 10000 in
theorem known1 : Tally.sum [49, 50, 51, 52, 53, 54, 55, 56, 57] = 0xe3069283#32 := by decide +kernel
theorem known2 : Tally.more (Tally.sum [49, 50, 51, 52]) [53, 54, 55, 56, 57] = 0xe3069283#32 := by
  rw [← known1]; exact (Tally.more_append _ [49, 50, 51, 52] _).symm

/-- a call that leaves the world alone, in a world of which only what is below a block is known. -/
theorem forget {P : Program} {f : FuncId} {args : Array Value} {w w0 : World} {v : Ending} {B : Nat} (h : Calls P f args w fun e w' => e = v ∧ w = w') (hb : Below B w0 w) :
    Calls P f args w fun e w' => e = v ∧ Below B w0 w' :=
  h.mono fun _ _ ⟨h1, h2⟩ => ⟨h1, h2 ▸ hb⟩

theorem alive_any (w : World) : Calls Try.prog 10 #[] w fun e w' => e = .returned (.bool true) ∧ Below w.heap.size w w' := by
  have kc := fun (w : World) (C : Array Value) (n c : Nat) => Lib.run_convert_bytes_const (P := Try.prog) w 22 5 C n c Try.underlying22 Try.underlying5
  have k1 : (((Tally.sum [49, 50, 51, 52, 53, 54, 55, 56, 57]).toNat : Int) == 3808858755) = true := by rw [known1]; rfl
  have k2 : (((Tally.more (Tally.sum [49, 50, 51, 52]) [53, 54, 55, 56, 57]).toNat : Int) == 3808858755) = true := by rw [known2]; rfl
  go_enter Try.func10, Try.ntmps10
  go_wp2_with fail
  refine (forget (sum_any _ _ _ [49, 50, 51, 52, 53, 54, 55, 56, 57] _ (bytes_new _ _ _ _ _ rfl (by decide) (by decide))) ((Below.refl w.heap.size w).alloc (Nat.le_refl _) _)).mono ?_
  rintro e w1 ⟨rfl, hb1⟩
  have hs1 := hb1.size
  go_wp2_with fail
  refine (forget (sum_any _ _ _ [49, 50, 51, 52] _ (bytes_new _ _ _ _ _ rfl (by decide) (by decide))) (hb1.alloc hs1 _)).mono ?_
  rintro e w2 ⟨rfl, hb2⟩
  have hs2 := hb2.size
  clear hb1 hs1
  go_wp2_with fail
  refine (forget (more_any _ _ _ _ [53, 54, 55, 56, 57] _ (bytes_new _ _ _ _ _ rfl (by decide) (by decide))) (hb2.alloc hs2 _)).mono ?_
  rintro e w3 ⟨rfl, hb3⟩
  go_wp2_with fail
  go_ret
  exact ⟨rfl, hb3⟩

/-! ### the laws of one text -/
theorem sums_walk (a : Option Addr) (len cap : Nat) (zs : List Int) (w : World) (hB : Bytes w a len zs) :
    Calls Try.prog 3 #[.slice a len cap] w fun e w' => e = .returned (.bool true) ∧ Below w.heap.size w w' := by
  go_enter Try.func3, Try.ntmps3
  go_wp2_with fail
  refine (alive_any _).mono ?_
  rintro e w1 ⟨rfl, hb1⟩
  have hB1 := hB.below hb1
  go_wp2_with (first | (go_at_call 11; refine (sum_any _ _ _ zs _ hB1).mono ?_; rintro e w' ⟨rfl, rfl⟩) | (go_at_call 12; refine (rsum_any _ _ _ zs _ hB1).mono ?_; rintro e w' ⟨rfl, rfl⟩))
  go_ret
  exact ⟨rfl, hb1⟩
theorem mores_walk (c : BitVec 32) (a : Option Addr) (len cap : Nat) (zs : List Int) (w : World) (hB : Bytes w a len zs) :
    Calls Try.prog 4 #[.int .u32 c.toNat, .slice a len cap] w fun e w' => e = .returned (.bool true) ∧ Below w.heap.size w w' := by
  go_enter Try.func4, Try.ntmps4
  go_wp2_with fail
  refine (alive_any _).mono ?_
  rintro e w1 ⟨rfl, hb1⟩
  have hB1 := hB.below hb1
  go_wp2_with (first | (go_at_call 13; refine (more_any c _ _ _ zs _ hB1).mono ?_; rintro e w' ⟨rfl, rfl⟩) | (go_at_call 14; refine (rmore_any c _ _ _ zs _ hB1).mono ?_; rintro e w' ⟨rfl, rfl⟩))
  go_ret
  exact ⟨rfl, hb1⟩
end Go.Proofs.Ytncjnalpfhafpaa
