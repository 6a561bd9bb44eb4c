/- The document's leases: without. Conditions: the row's cells are seen. -/
import Derived.Test.YtkgnooogppkieaaLp
namespace Go.Proofs.Ytkgnooogppkieaa
open Go.RowKit
set_option linter.unusedVariables false
set_option linter.unusedSimpArgs false
variable {w w' : World} {base : Nat} {L : List Lz}

theorem row46 : (Try.prog.info? 46).map (fun i => (i.zero, i.size, i.bytes)) = some (some (.agg #[.int .i64 0, .int .i64 0, .int .i64 0]), 3, 24) := by kernel_rfl
theorem src46 (w : World) (x : Lz) : Src (w.alloc (.cells #[.int .i64 x.1, .int .i64 x.2.1, .int .i64 x.2.2] 46)) (some ⟨w.heap.size, 0, none⟩) 1 3 (tc x) := by
  refine ⟨rfl, tc_one x, .inr ⟨_, rfl, fun j u hj => ?_⟩⟩
  rw [Addr.add_lit, Nat.zero_add, (Box.new w 46 #[.int .i64 x.1, .int .i64 x.2.1, .int .i64 x.2.2]).cell j]
  simpa [tc] using hj
def outL (L : List Lz) (id : Int) (t : Nat) : List Lz := (L.take t).filter fun p => !(p.1 == id)
theorem outL_len (L : List Lz) (id : Int) (t : Nat) : (outL L id t).length ≤ t := Nat.le_trans (List.length_filter_le _ _) (by rw [List.length_take]; omega)
theorem outL_next {L : List Lz} {id : Int} {t : Nat} {p : Lz} (h : L[t]? = some p) : outL L id (t + 1) = outL L id t ++ (if p.1 == id then [] else [p]) := by
  unfold outL; rw [List.take_add_one, h, List.filter_append]; cases hq : (p.1 == id) <;> simp [hq]
set_option maxHeartbeats 1000000 in
theorem rwithout_any {bad : Nat → Prop} (ad : Option Addr) (c : Nat) (id : Int) (h : Sees w bad ad L) (hl : L.length ≤ 1000) :
    Calls Try.prog 49 #[.slice ad L.length c, .int .i64 id] w fun e w' => ∃ v', e = .returned v' ∧ w'.ownsRow w.heap.size 46 3 v' (outL L id L.length).length (cellsOf (outL L id L.length)) ∧ Below w.heap.size w w' := by
  have HO := Lib.hid h
  clear h
  go_enter Try.func49, Try.ntmps49
  go_wp2
  go_loopw [5, 6] (fun lv i wr => ∃ k : Nat, k ≤ L.length ∧ i = .int .i64 k ∧ wr.ownsRow w.heap.size 46 3 lv (outL L id k).length (cellsOf (outL L id k)) ∧ Below w.heap.size w wr) (fun _ i _ => L.length - (intOf i).toNat)
  case atStart => exact ⟨0, Nat.zero_le _, rfl, World.ownsRow_nil _ _ _ _, Below.refl _ _⟩
  case round =>
    obtain ⟨k, hk, rfl, hR, hbel⟩ := hrel
    have HR := Lib.hid hR
    have HB := Lib.hid hbel
    obtain ⟨lad, lc, rfl, _⟩ := own_shape hR
    have hlen := outL_len L id k
    clear hR hbel
    by_cases hlt : k < L.length
    · obtain ⟨p, hp⟩ : ∃ p, L[k]? = some p := ⟨_, List.getElem?_eq_getElem hlt⟩
      obtain ⟨g, off, rfl, hg, _, d0, d1, d2⟩ := (HO.out.below HB.out).get k p hp
      have HE := Lib.hid (outL_next (id := id) hp)
      clear hp
      cases hq : (p.1 == id)
      · have HRA := Lib.hid (HR.out.alloc (.cells #[.int .i64 p.1, .int .i64 p.2.1, .int .i64 p.2.2] 46))
        have HSX := Lib.hid (src46 wr p)
        obtain ⟨i0, hi, hz0, hz1, hz2⟩ := info_parts row46
        have HI := Lib.hid hi
        have HZZ := Lib.hid hz0
        have HSZ := Lib.hid (show w.heap.size ≤ (wr.alloc (.cells #[.int .i64 p.1, .int .i64 p.2.1, .int .i64 p.2.2] 46)).heap.size by have := HB.out.size; simp; omega)
        clear hi hz0
        go_wp2_with (at_builtin; refine wpList_append_at rfl (.tmp 20) (.tmp 25) 31 rfl w.heap.size 46 i0 _ 3 24 Try.underlying31 HI.out HZZ.out hz1 hz2 rfl (by decide) _ _ _ rfl HRA.out _ _ _ _ rfl HSX.out (by unfold maxLen; omega) (by omega) HSZ.out ?_; intro v6 w6 own6 g6 at6; obtain ⟨ad6, c6, rfl, hc6⟩ := own_shape own6)
        go_roundw
        case rel =>
          refine ⟨k + 1, by omega, by go_num, ?_, (HB.out.alloc HB.out.size _).grown g6 HSZ.out (own_ge HR.out)⟩
          rw [HE.out, hq]
          show World.ownsRow _ _ _ _ _ (outL L id k ++ [p]).length (cellsOf (outL L id k ++ [p]))
          rw [cells_snoc, List.length_append]
          exact own6
        case measure => simp [intOf]; omega
      · go_wp2
        go_roundw
        case rel =>
          refine ⟨k + 1, by omega, by go_num, ?_, HB.out⟩
          rw [HE.out, hq]
          show World.ownsRow _ _ _ _ _ (outL L id k ++ []).length (cellsOf (outL L id k ++ []))
          rw [List.append_nil]
          exact HR.out
        case measure => simp [intOf]; omega
    · obtain rfl : k = L.length := by omega
      go_wp2
      go_ret
      exact ⟨_, rfl, HR.out, HB.out⟩
end Go.Proofs.Ytkgnooogppkieaa
