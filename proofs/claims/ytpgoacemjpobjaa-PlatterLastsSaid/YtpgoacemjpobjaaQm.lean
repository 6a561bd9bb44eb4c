/- All sectors of a disk, and of the document's. Conditions: the disk lies in the call's own memory, and is good. -/
import Derived.Test.YtpgoacemjpobjaaQk
namespace Go.Proofs.Ytpgoacemjpobjaa
open Go Go.RowKit
set_option linter.unusedVariables false
set_option linter.unusedSimpArgs false
variable {w w' : World} {base n : Nat} {V V' : Vs} {D : Dk} {bad : Nat → Prop}

theorem strC_snoc (l : List Sec) (k : Nat) (s : Sec) (h : l[k]? = some s) : strC (l.take (k + 1)) = strC (l.take k) ++ [st s] := by
  rw [List.take_add_one, h]; simp [strC]
/-- a call that hands back all sectors. -/
def AllOf (w : World) (l : List Sec) (e : Ending) (w' : World) : Prop :=
  ∃ a c, e = .returned (.slice a l.length c) ∧ w'.ownsRow w.heap.size 9 1 (.slice a l.length c) l.length (strC l) ∧ Below w.heap.size w w'
theorem may_0 (D : Dk) (hd : D.dead = false) (k : Nat) (hk : k < D.now.length) : mayE D k = 0 := by
  unfold mayE; rw [hd, if_neg (by decide), if_neg (by omega)]
set_option maxHeartbeats 2000000 in
theorem sectors_any (h : Dsk w base n V D) (hg : Good D) (hd : D.dead = false) : Calls Try.prog 20 #[.pointer (some ⟨n, 0, none⟩)] w (AllOf w D.now) := by
  have C0 := Lib.hid (many_any h hg.many)
  have HD := Lib.hid h
  have HG := Lib.hid hg
  have HDD := Lib.hid hd
  have hmany := hg.many
  obtain ⟨i0, hi, hz0, hz1, hz2⟩ := info_parts isz9
  have HI := Lib.hid hi
  have HZZ := Lib.hid hz0
  clear h hg hd hi hz0
  go_enter Try.func20, Try.ntmps20
  go_wp2_with fail
  refine C0.out.mono ?_
  rintro e w0 ⟨rfl, rfl⟩
  clear C0
  go_wp2_with fail
  go_loopw [3, 9] (fun lv iv wr => ∃ k : Nat, k ≤ D.now.length ∧ iv = .int .i64 k ∧ wr.ownsRow w.heap.size 9 1 lv k (strC (D.now.take k)) ∧ Below w.heap.size w wr) (fun _ iv _ => D.now.length - (intOf iv).toNat)
  case atStart => exact ⟨0, Nat.zero_le _, rfl, World.ownsRow_nil _ _ _ _, Below.refl _ _⟩
  case round =>
    obtain ⟨k, hk, rfl, hO, hB⟩ := hrel
    obtain ⟨ak, ck, rfl, hck⟩ := own_shape hO
    have HO := Lib.hid hO
    have HB := Lib.hid hB
    clear hO hB
    by_cases hlt : k < D.now.length
    · obtain ⟨s, hs⟩ : ∃ s, D.now[k]? = some s := ⟨_, List.getElem?_eq_getElem hlt⟩
      have hl := HG.out.fulln s (List.mem_of_getElem? hs)
      have C1 := read_any (k : Int) (HD.out.bel HB.out) HG.out
      have C1 : Calls Try.prog 16 #[.pointer (some ⟨n, 0, none⟩), .int .i64 (k : Int)] wr (fun e w' => e = .returned (.tuple #[.slice (some ⟨wr.heap.size, 0, none⟩) 64 64, .int .i64 0]) ∧ w' = wr.alloc (.cells (bc s).toArray 63)) := C1.mono (fun e w' hh => by
        rcases hh with ⟨hm, _⟩ | ⟨_, s', hs', he, hw⟩
        · exact absurd (may_0 D HDD.out k hlt) hm
        · have : s' = s := by rw [Int.toNat_natCast, hs] at hs'; exact (Option.some.inj hs').symm
          subst this
          exact ⟨he, hw⟩)
      have C1 := Lib.hid C1
      have bA := (Below.refl wr.heap.size wr).alloc (Nat.le_refl _) (.cells (bc s).toArray 63)
      have hcv := conv_any (bys_new wr s 63 hl) 64
      unfold st at hcv
      have HN := Lib.hid (strC_snoc D.now k s hs)
      obtain ⟨z, hz⟩ : ∃ z : ByteArray, z = ⟨s.toArray⟩ := ⟨_, rfl⟩
      have HZ := Lib.hid hz
      rw [← hz] at hcv
      have bB := bA.alloc bA.size (.cells #[.string z] 9)
      have HO1 := Lib.hid (own_stays HO.out (w' := (wr.alloc (.cells (bc s).toArray 63)).alloc (.cells #[.string z] 9)) (fun i hi => bB.block i (own_lt HO.out i hi)))
      have hsr := src9 (wr.alloc (.cells (bc s).toArray 63)) z
      simp only [World.size_alloc] at hsr
      have HSR := Lib.hid hsr
      clear hsr
      have HBB := Lib.hid (HB.out.trans (bB.mono HB.out.size))
      have HSZ := Lib.hid HBB.out.size
      clear bA bB hs hl hz
      go_wp2_with fail
      refine C1.out.mono ?_
      rintro e w1 ⟨rfl, rfl⟩
      clear C1
      go_wp2_with (at_builtin; refine wpList_append_at rfl (.tmp 18) (.tmp 21) 25 rfl w.heap.size 9 i0 _ 1 16 Try.underlying25 HI.out HZZ.out hz1 hz2 rfl (by decide) _ _ _ rfl HO1.out _ _ _ _ rfl HSR.out (by unfold maxLen; omega) (by omega) HSZ.out ?_)
      intro v6 w6 own6 g6 at6
      obtain ⟨a6, c6, rfl, _⟩ := own_shape own6
      have HO6 := Lib.hid own6
      have HB6 := Lib.hid (HBB.out.grown g6 HSZ.out (own_ge HO1.out))
      clear own6 g6 at6 hcv
      go_wp2
      go_roundw
      case rel =>
        refine ⟨k + 1, by omega, by go_num, ?_, HB6.out⟩
        rw [HN.out, show st s = .string z by rw [HZ.out]; rfl]
        exact HO6.out
      case measure => simp [intOf]; omega
    · obtain rfl : k = D.now.length := by omega
      go_wp2
      go_ret
      refine ⟨_, _, rfl, ?_, HB.out⟩
      have := HO.out
      rwa [List.take_length] at this
set_option maxHeartbeats 2000000 in
theorem rall_any {af aw : Option Addr} {cf cw : Nat} (h : RAt w bad af aw cf cw D) (hg : Good D) (hwl : D.wait.length ≤ 1000000) : Calls Try.prog 14 #[rdv af aw cf cw D] w (AllOf w D.now) := by
  have HX := Lib.hid (Box.new w 28 #[.slice af D.firm.length cf, .slice aw D.wait.length cw, .int .i64 D.armed, .bool D.dead])
  have B0 := Lib.hid ((Below.refl w.heap.size w).alloc (Nat.le_refl _) (.cells #[.slice af D.firm.length cf, .slice aw D.wait.length cw, .int .i64 D.armed, .bool D.dead] 28))
  have HRR := Lib.hid (h.mono (bad' := fun i => bad i ∨ w.heap.size ≤ i) (fun k hk hh => hh.elim id (fun h => by omega)))
  have HG := Lib.hid hg
  have HWL := Lib.hid hwl
  have HSM := Lib.hid hg.same
  have hmany : D.firm.length ≤ 65536 := by rw [hg.same]; exact hg.many
  obtain ⟨i0, hi, hz0, hz1, hz2⟩ := info_parts isz9
  have HI := Lib.hid hi
  have HZZ := Lib.hid hz0
  show Calls Try.prog 14 #[.agg #[.slice af D.firm.length cf, .slice aw D.wait.length cw, .int .i64 D.armed, .bool D.dead]] w _
  clear h hg hwl hi hz0
  go_enter Try.func14, Try.ntmps14
  go_wp2_with fail
  generalize w.alloc (.cells #[.slice af D.firm.length cf, .slice aw D.wait.length cw, .int .i64 D.armed, .bool D.dead] 28) = w0 at HX B0 ⊢
  go_loopw [3, 4] (fun lv iv wr => ∃ k : Nat, k ≤ D.firm.length ∧ iv = .int .i64 k ∧ wr.ownsRow w.heap.size 9 1 lv k (strC (D.now.take k)) ∧ Box wr w.heap.size 28 #[.slice af D.firm.length cf, .slice aw D.wait.length cw, .int .i64 D.armed, .bool D.dead] ∧ Below w.heap.size w wr) (fun _ iv _ => D.firm.length - (intOf iv).toNat)
  case atStart => exact ⟨0, Nat.zero_le _, rfl, World.ownsRow_nil _ _ _ _, HX.out, B0.out⟩
  case round =>
    obtain ⟨k, hk, rfl, hO, hx, hB⟩ := hrel
    obtain ⟨ak, ck, rfl, hck⟩ := own_shape hO
    have HO := Lib.hid hO
    have HB := Lib.hid hB
    have HXR := Lib.hid hx
    have x0 : wr.cell? ⟨w.heap.size, 0, none⟩ = some (.slice af D.firm.length cf) := hx.cell 0
    have x1 : wr.cell? ⟨w.heap.size, 1, none⟩ = some (.slice aw D.wait.length cw) := hx.cell 1
    have x2 : wr.cell? ⟨w.heap.size, 2, none⟩ = some (.int .i64 D.armed) := hx.cell 2
    have x3 : wr.cell? ⟨w.heap.size, 3, none⟩ = some (.bool D.dead) := hx.cell 3
    clear hO hB hx
    by_cases hlt : k < D.firm.length
    · obtain ⟨s, hs⟩ : ∃ s, D.now[k]? = some s := ⟨_, List.getElem?_eq_getElem (by rw [← HSM.out]; exact hlt)⟩
      have hla : lastAt D D.wait.length k = s := by rw [last_now HG.out, List.getD_eq_getElem?_getD, hs]; rfl
      have hlf : (k : Int) < (D.firm.length : Int) := by omega
      have C1 := rread_any (af := af) (aw := aw) (cf := cf) (cw := cw) k (w := wr) (bad := fun i => bad i ∨ w.heap.size ≤ i) (D := D) (HRR.out.stays HB.out.size (fun k hk hb => HB.out.block k (by rcases Nat.lt_or_ge k w.heap.size with h | h; exact h; exact absurd (.inr h) hb))) (by omega) (by omega) HWL.out
      rw [hla] at C1
      unfold rdv st at C1
      have HN := Lib.hid (strC_snoc D.now k s hs)
      obtain ⟨z, hz⟩ : ∃ z : ByteArray, z = ⟨s.toArray⟩ := ⟨_, rfl⟩
      have HZ := Lib.hid hz
      rw [← hz] at C1
      have C1 := Lib.hid C1
      clear hs hz hla
      go_wp2_with fail
      refine C1.out.mono ?_
      rintro e w1 ⟨rfl, b1⟩
      have bB := b1.alloc b1.size (.cells #[.string z] 9)
      have HO1 := Lib.hid (own_stays HO.out (w' := w1.alloc (.cells #[.string z] 9)) (fun i hi => bB.block i (own_lt HO.out i hi)))
      have HX1 := Lib.hid (HXR.out.below bB HXR.out.lt)
      have HSR := Lib.hid (src9 w1 z)
      have HBB := Lib.hid (HB.out.trans (bB.mono HB.out.size))
      have HSZ := Lib.hid HBB.out.size
      clear b1 bB C1 x0 x1 x2 x3
      go_wp2_with (at_builtin; refine wpList_append_at rfl (.tmp 12) (.tmp 16) 25 rfl w.heap.size 9 i0 _ 1 16 Try.underlying25 HI.out HZZ.out hz1 hz2 rfl (by decide) _ _ _ rfl HO1.out _ _ _ _ rfl HSR.out (by unfold maxLen; omega) (by omega) HSZ.out ?_)
      intro v6 w6 own6 g6 at6
      obtain ⟨a6, c6, rfl, _⟩ := own_shape own6
      have HO6 := Lib.hid own6
      have HX6 := Lib.hid (HX1.out.grown g6 (fun e => own_box_ne HO1.out HX1.out (by decide) e.symm))
      have HB6 := Lib.hid (HBB.out.grown g6 HSZ.out (own_ge HO1.out))
      clear own6 g6 at6
      go_wp2
      go_roundw
      case rel =>
        refine ⟨k + 1, by omega, by go_num, ?_, HX6.out, HB6.out⟩
        rw [HN.out, show st s = .string z by rw [HZ.out]; rfl]
        exact HO6.out
      case measure => simp [intOf]; omega
    · obtain rfl : k = D.firm.length := by omega
      go_wp2
      go_ret
      refine ⟨ak, ck, by rw [HSM.out]; rfl, ?_, HB.out⟩
      have := HO.out
      rwa [HSM.out, List.take_length] at this
end Go.Proofs.Ytpgoacemjpobjaa
