/- ledger: Sync. Conditions: the ledger lies in the call's own memory. -/
import Derived.Test.YtdiboicllolcnaaLl
namespace Go.Proofs.Ytdiboicllolcnaa
open Go Go.RowKit
set_option linter.unusedVariables false
set_option linter.unusedSimpArgs false
variable {w w' : World} {base n nd b0 : Nat} {V V' : Vl} {VD VD' : Vs} {D D' : Dk} {G G' : Lg}
/-- what Sync does. -/
def lsyB (D : Dk) (G : Lg) : Bool := !G.dead && (sealR D G G.half G.b.length).2
def lsyD (D : Dk) (G : Lg) : Dk := if G.dead then D else (sealR D G G.half G.b.length).1
def lsyG (D : Dk) (G : Lg) : Lg := if G.dead then G else sealG D G G.half G.b.length
def LsyPost (w : World) (base n nd : Nat) (V : Vl) (VD : Vs) (D : Dk) (G : Lg) (e : Ending) (w' : World) : Prop :=
  ∃ VD', e = .returned (.int .i64 (if lsyB D G then 0 else 40)) ∧ Ldg w' base n nd V VD' (lsyD D G) (lsyG D G) ∧ GoesL w w' n nd V V VD VD'
set_option maxRecDepth 100000 in
set_option maxHeartbeats 8000000 in
theorem lsync_any (h : Ldg w base n nd V VD D G) (hb : base ≤ w.heap.size) (hf : Fits G D) (hg : Good D) (hd : D.dead = G.dead) (hwl : D.wait.length ≤ 900000) :
    Calls Try.prog 27 #[.pointer (some ⟨n, 0, none⟩)] w (LsyPost w base n nd V VD D G) := by
  have HL := Lib.hid h
  have p8 : w.cell? ⟨n, 8, none⟩ = some (.bool G.dead) := h.box.cell 8
  have hbl := h.box.lt
  obtain ⟨ab, cb, hvb, _⟩ := own_shape h.rb
  have HVB := Lib.hid hvb
  cases hG : G.dead with
  | true =>
    have HY := Lib.hid hG
    rw [hG] at p8
    clear h hf hg hd hG hvb
    go_enter Try.func27, Try.ntmps27
    go_wp2_with fail
    go_ret
    refine ⟨VD, by unfold lsyB; rw [HY.out]; rfl, ?_, GoesL.of_below (Below.refl _ _)⟩
    rw [lsyD, lsyG, if_pos HY.out, if_pos HY.out]
    exact HL.out
  | false =>
    have HY := Lib.hid hG
    rw [hG] at p8 hd
    have hz1 := hf.size
    have hz2 := hf.disk
    have hz3 := hf.b
    have C := Lib.hid (fun (w1 : World) (b1 : Below w.heap.size w w1) => seal_any G.half G.b.length (h.bel b1) (Nat.le_trans hb b1.size) hf hg hG hd hf.half (by omega) hwl)
    obtain ⟨E, hE⟩ : ∃ E : Int, E = (if (sealR D G G.half G.b.length).2 then 0 else 40) := ⟨_, rfl⟩
    have HE := Lib.hid hE
    have hgh : (sealG D G G.half G.b.length).half = G.half := by unfold sealG; split <;> rfl
    have HGH := Lib.hid hgh
    clear h hf hg hd hG hvb hE hgh
    go_enter Try.func27, Try.ntmps27
    go_upto_region 3 with (fail)
    refine wp_region_steps (fun w' => w'.cell? ⟨n, 4, none⟩ = some (.int .i64 (G.half : Nat)) ∧ w'.cell? ⟨n, 6, none⟩ = some (.slice ab G.b.length cb)) [(true, 0), (true, 1), (true, 2), (true, 3), (true, 4), (true, 5), (true, 6), (true, 7), (true, 8), (true, 9), (false, 10), (false, 11)] 11 _ _ (by kernel_rfl) rfl (by kernel_rfl) (by kernel_rfl) rfl (fun _ _ _ _ _ h => h) (⟨HL.out.box.drew.cell 4, (HL.out.box.drew.cell 6).trans (congrArg some HVB.out)⟩) ?_
    intro S HS
    simp only [pickS, List.getElem?_cons_zero, List.getElem?_cons_succ]
    refine wpSteps_head ?_
    go_big_quiet_want; go_big_quiet_op; go_big_quiet_on
    refine wpQuiet_nil ?_
    refine wpSteps_head ?_
    go_big_quiet_want; go_big_quiet_op; go_big_quiet_on
    refine wpQuiet_nil ?_
    refine wpSteps_head ?_
    go_big_quiet_want; apply quiet_value; (· (intro w' hw; obtain ⟨hA, hB⟩ := (HS.out _).1 hw; have hbl := World.block_lt_of_cell? _ _ hA; go_simp; try rfl)); simp only [Act.put, List.setIfInBounds_toArray, List.set_cons_succ, List.set_cons_zero]; go_big_quiet_on
    refine wpQuiet_nil ?_
    refine wpSteps_head ?_
    go_big_quiet_want; apply quiet_value; (· (intro w' hw; obtain ⟨hA, hB⟩ := (HS.out _).1 hw; have hbl := World.block_lt_of_cell? _ _ hA; go_simp; try rfl)); simp only [Act.put, List.setIfInBounds_toArray, List.set_cons_succ, List.set_cons_zero]; go_big_quiet_on
    refine wpQuiet_nil ?_
    refine wpSteps_head ?_
    go_big_quiet_want; apply quiet_value; (· (intro w' hw; obtain ⟨hA, hB⟩ := (HS.out _).1 hw; have hbl := World.block_lt_of_cell? _ _ hA; go_simp; try rfl)); simp only [Act.put, List.setIfInBounds_toArray, List.set_cons_succ, List.set_cons_zero]; go_big_quiet_on
    refine wpQuiet_nil ?_
    refine wpSteps_head ?_
    go_big_quiet_want; go_big_quiet_op; go_big_quiet_on
    refine wpQuiet_nil ?_
    refine wpSteps_head ?_
    go_big_quiet_want; apply quiet_value; (· (intro w' hw; obtain ⟨hA, hB⟩ := (HS.out _).1 hw; have hbl := World.block_lt_of_cell? _ _ hA; go_simp; try rfl)); simp only [Act.put, List.setIfInBounds_toArray, List.set_cons_succ, List.set_cons_zero]; go_big_quiet_on
    refine wpQuiet_nil ?_
    refine wpSteps_head ?_
    go_big_quiet_want; apply quiet_value; (· (intro w' hw; obtain ⟨hA, hB⟩ := (HS.out _).1 hw; have hbl := World.block_lt_of_cell? _ _ hA; go_simp; try rfl)); simp only [Act.put, List.setIfInBounds_toArray, List.set_cons_succ, List.set_cons_zero]; go_big_quiet_on
    refine wpQuiet_nil ?_
    refine wpSteps_head ?_
    go_big_quiet_want; apply quiet_value; (· (intro w' hw; obtain ⟨hA, hB⟩ := (HS.out _).1 hw; have hbl := World.block_lt_of_cell? _ _ hA; go_simp; try rfl)); simp only [Act.put, List.setIfInBounds_toArray, List.set_cons_succ, List.set_cons_zero]; go_big_quiet_on
    refine wpQuiet_nil ?_
    refine wpSteps_head ?_
    go_big_quiet_want; apply quiet_value; (· (intro w' hw; obtain ⟨hA, hB⟩ := (HS.out _).1 hw; have hbl := World.block_lt_of_cell? _ _ hA; go_simp; try rfl)); simp only [Act.put, List.setIfInBounds_toArray, List.set_cons_succ, List.set_cons_zero]; go_big_quiet_on
    refine wpQuiet_nil ?_
    refine wpSteps_more ?_
    go_wp2_with fail
    refine (C.out _ (Below.refl _ _).drew).mono ?_
    rintro e w5 ⟨VD5, rfl, l5, g5⟩
    rw [← HE.out]
    have HL5 := Lib.hid l5
    have HG5 := Lib.hid ((GoesL.of_below (Below.refl _ _).drew).trans g5)
    have p46 : S w5 := (HS.out _).2 ⟨by rw [← HGH.out]; exact HL5.out.box.cell 4, (HL5.out.box.cell 6).trans (congrArg some HVB.out)⟩
    go_wp2_with fail
    refine ThenS.mk p46 ?_
    refine wpSteps_last ?_
    go_wp2_with fail
    go_ret
    refine ⟨VD5, by unfold lsyB; rw [HY.out, HE.out]; rfl, ?_, HG5.out⟩
    rw [lsyD, lsyG, if_neg (by rw [HY.out]; decide), if_neg (by rw [HY.out]; decide)]
    exact HL5.out
end Go.Proofs.Ytdiboicllolcnaa
