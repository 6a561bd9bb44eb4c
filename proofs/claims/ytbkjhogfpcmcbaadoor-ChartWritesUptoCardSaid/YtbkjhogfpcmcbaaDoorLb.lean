/- chart: own: the program's mounts out of the document's. Conditions: the mounts lie in memory. -/
import Derived.Test.YtbkjhogfpcmcbaaDoorKf
import Derived.Test.YtbkjhogfpcmcbaaDoorOwn
namespace Go.Proofs.YtbkjhogfpcmcbaaDoor
open Go Go.RowKit Zn
set_option linter.unusedVariables false
set_option linter.unusedSimpArgs false
variable {w w' : World}
theorem mcells_len (l : List Mt) : (mcells l).length = l.length * 2 := by
  induction l with
  | nil => rfl
  | cons p l ih => simp only [mcells, List.flatMap_cons, List.length_append, List.length_cons] at ih ⊢; rw [ih]; simp [mc]; omega
theorem src53 (w : World) (x : Mt) : Src (w.alloc (.cells #[.string x.p, .int .i64 x.v] 53)) (some ⟨w.heap.size, 0, none⟩) 1 2 (mc x) :=
  ⟨rfl, by simp [mc, Value.oneCell'], .inr ⟨_, rfl, cell_two_new w _ _ _⟩⟩
set_option maxHeartbeats 2000000 in
theorem own_any (a : Option Addr) (len cap : Nat) (ms : List Mt) (w : World) (h : MsAt w a len ms) (hl : len ≤ 1000000) :
    Calls Tryd.prog 15 #[.slice a len cap] w fun e w' => ∃ b c, e = .returned (.slice b len c) ∧ MsAt w' b len ms ∧ Below w.heap.size w w' := by
  have H := Lib.hid h
  have HL := Lib.hid h.len
  obtain ⟨i0, hi, hz0, hz1, hz2⟩ := info_parts row53
  have HI := Lib.hid hi
  have HZZ := Lib.hid hz0
  clear h hi hz0
  go_enter Tryd.func15, Tryd.ntmps15
  go_wp2_with fail
  go_loopw [3, 8] (fun v i wr => ∃ k : Nat, k ≤ len ∧ i = .int .i64 k ∧ wr.ownsRow w.heap.size 53 2 v k (mcells (ms.take k)) ∧ Below w.heap.size w wr) (fun _ i _ => len - (intOf i).toNat)
  case atStart => exact ⟨0, Nat.zero_le _, rfl, World.ownsRow_nil _ _ _ _, Below.refl _ _⟩
  case round =>
    obtain ⟨k, hk, rfl, hown, hb⟩ := hrel
    obtain ⟨ud, uc, rfl, huc⟩ := own_shape hown
    have HB := Lib.hid hb
    by_cases hlt : k < len
    · obtain ⟨b, off, x, rfl, hp, hbl, c0, c1⟩ := H.out.get k hlt
      have c0 := (hb.cell (p := ⟨b, off + k * 2, none⟩) hbl).trans c0
      have c1 := (hb.cell (p := ⟨b, off + k * 2 + 1, none⟩) hbl).trans c1
      have hbw : b < wr.heap.size := Nat.lt_of_lt_of_le hbl hb.size
      have hb2 : Below w.heap.size w ((wr.alloc (.cells #[.string x.p, .int .i64 x.v] 45)).alloc (.cells #[.string x.p, .int .i64 x.v] 53)) := (hb.alloc hb.size _).alloc (Nat.le_trans hb.size (by simp)) _
      have HB2 := Lib.hid hb2
      have HR := Lib.hid ((hown.alloc (.cells #[.string x.p, .int .i64 x.v] 45)).alloc (.cells #[.string x.p, .int .i64 x.v] 53))
      have HSX := Lib.hid (src53 (wr.alloc (.cells #[.string x.p, .int .i64 x.v] 45)) x)
      simp only [World.size_alloc] at HSX
      have HTK := Lib.hid (show mcells (ms.take k) ++ mc x = mcells (ms.take (k + 1)) by rw [List.take_add_one, hp]; exact (mcells_snoc _ _).symm)
      clear hb hown hp hb2
      go_wp2_with (at_builtin; refine wpList_append_src rfl (.tmp 12) (.tmp 14) 22 rfl w.heap.size 53 i0 _ 2 24 Tryd.underlying22 HI.out HZZ.out hz1 hz2 rfl (by decide) _ _ _ rfl HR.out _ _ _ _ rfl HSX.out (by unfold maxLen; omega) (by omega) HB2.out.size ?_; intro v7 w7 own7 g7; have HG7 := Lib.hid (HB2.out.grown g7 HB2.out.size (own_ge HR.out)); have HO7 := Lib.hid own7; clear own7 g7)
      go_roundw
      case rel => exact ⟨k + 1, by omega, by go_num, by rw [← HTK.out]; exact HO7.out, HG7.out⟩
      case measure => simp [intOf]; omega
    · obtain rfl : k = len := by omega
      have htk : ms.take k = ms := List.take_of_length_le (by rw [HL.out]; exact Nat.le_refl _)
      rw [htk] at hown
      have HM := Lib.hid (own_MsAt (by rw [HL.out]; exact hown) HL.out.symm)
      clear hb hown htk
      go_wp2_with fail
      go_ret
      exact ⟨_, _, rfl, HM.out, HB.out⟩
end Go.Proofs.YtbkjhogfpcmcbaaDoor
