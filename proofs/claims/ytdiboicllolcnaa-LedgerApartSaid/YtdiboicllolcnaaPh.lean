/- platter: Sync. Conditions: the disk lies in the call's own memory. -/
import Derived.Test.YtdiboicllolcnaaPg
namespace Go.Proofs.Ytdiboicllolcnaa
open Go Go.RowKit
set_option linter.unusedVariables false
set_option linter.unusedSimpArgs false
variable {w w' : World} {base n : Nat} {V V' V'' : Vs} {D : Dk}

def syncE (D : Dk) : Int := if D.dead then 40 else if diesB D then 40 else 0
def syncD (D : Dk) : Dk := if D.dead then D else if diesB D then diesD D else { diesD D with firm := laid D.firm D.wait, wait := [] }
theorem Dsk.last (h : Dsk w base n V D) (D' : Dk) (V' : Vs) (hV : V' = ⟨V.n, V.f, .slice none 0 0⟩) (hD : D' = { D with wait := [] }) : Dsk (w.setCell ⟨n, 2, none⟩ (.slice none 0 0)) base n V' D' := by
  subst hV hD
  have ht : Touch (· = n) w (w.setCell ⟨n, 2, none⟩ (.slice none 0 0)) := (Touch.refl _ _).set1 2 _
  exact ⟨h.box.set 2 _, own_touch h.rn ht (fun b hv e => h.nn (e ▸ hv)), own_touch h.rf ht (fun b hv e => h.nf (e ▸ hv)), World.ownsRow_nil _ _ _ _, h.hn, h.ne⟩
theorem Goes.last : Goes w (w.setCell ⟨n, 2, none⟩ (.slice none 0 0)) n V ⟨V.n, V.f, .slice none 0 0⟩ := by
  have ht : Touch (· = n) w (w.setCell ⟨n, 2, none⟩ (.slice none 0 0)) := (Touch.refl _ _).set1 2 _
  refine ⟨ht.mono (fun k _ e => .inl e), fun k hk => ?_⟩
  rcases hk with h | h | h | h
  · exact .inl (.inl h)
  · exact .inl (.inr (.inl h))
  · exact .inl (.inr (.inr (.inl h)))
  · cases h
set_option maxHeartbeats 2000000 in
set_option maxRecDepth 100000 in
theorem sync_any (h : Dsk w base n V D) (hb : base ≤ w.heap.size) (hg : Good D) (hwl : D.wait.length ≤ 1000000) : Calls Try.prog 50 #[.pointer (some ⟨n, 0, none⟩)] w fun e w' => e = .returned (.int .i64 (syncE D)) ∧ ∃ V', Dsk w' base n V' (syncD D) ∧ Goes w w' n V V' := by
  obtain ⟨e0, he⟩ : ∃ e0, e0 = syncE D := ⟨_, rfl⟩
  obtain ⟨D', hD'⟩ : ∃ D', D' = syncD D := ⟨_, rfl⟩
  rw [← he, ← hD']
  have HE := Lib.hid he
  have HD' := Lib.hid hD'
  clear he hD'
  obtain ⟨aw, cw, hVw, _⟩ := own_shape h.rw
  obtain ⟨af, cf, hVf, _⟩ := own_shape h.rf
  obtain ⟨nn, nf, nw⟩ := V
  simp only at hVw hVf
  subst hVw hVf
  have HD := Lib.hid h
  have HG := Lib.hid hg
  have HWL := Lib.hid hwl
  have C1 := Lib.hid (dies_any h hg.arm)
  have c4 : w.cell? ⟨n, 4, none⟩ = some (.bool D.dead) := h.box.cell 4
  have hn := h.box.lt
  cases hd : D.dead
  rotate_left
  · rw [hd] at c4
    have HDD := Lib.hid hd
    clear h hg hwl hd C1
    go_enter Try.func50, Try.ntmps50
    go_wp2
    go_ret
    refine ⟨by rw [HE.out, syncE, HDD.out]; rfl, _, ?_, Goes.refl _ _ _⟩
    have : D' = D := by rw [HD'.out, syncD, HDD.out]; rfl
    rw [this]; exact HD.out
  · rw [hd] at c4
    obtain ⟨q, hq⟩ : ∃ q, q = diesB D := ⟨_, rfl⟩
    have HQ := Lib.hid hq
    rw [← hq] at C1
    have HDD := Lib.hid hd
    clear hq h hg hwl hd
    go_enter Try.func50, Try.ntmps50
    go_wp2_with fail
    refine C1.out.mono ?_
    rintro e w1 ⟨rfl, hD1, hG1⟩
    have HD1 := Lib.hid hD1
    have HG1 := Lib.hid hG1
    clear hD1 hG1 C1 c4 hn
    cases q
    rotate_left
    · go_wp2
      go_ret
      refine ⟨by rw [HE.out, syncE, HDD.out, ← HQ.out]; rfl, _, ?_, HG1.out⟩
      have : D' = diesD D := by rw [HD'.out, syncD, HDD.out, ← HQ.out]; rfl
      rw [this]; exact HD1.out
    · have HE0 : Hid (e0 = 0) := by have : e0 = 0 := (by rw [HE.out, syncE, HDD.out, ← HQ.out]; rfl); exact this
      have HD0 : Hid (D' = { diesD D with firm := laid D.firm D.wait, wait := [] }) := by have : D' = { diesD D with firm := laid D.firm D.wait, wait := [] } := (by rw [HD'.out, syncD, HDD.out, ← HQ.out]; rfl); exact this
      obtain ⟨D1, hD1⟩ : ∃ D1, D1 = diesD D := ⟨_, rfl⟩
      have hw1 : D1.wait = D.wait := by rw [hD1]; unfold diesD; split <;> rfl
      have hf1 : D1.firm = D.firm := by rw [hD1]; unfold diesD; split <;> rfl
      rw [← hD1] at HD1 HD0
      have HW1 := Lib.hid hw1
      have HF1 := Lib.hid hf1
      have c2 : w1.cell? ⟨n, 2, none⟩ = some (.slice aw D.wait.length cw) := HD1.out.box.cell 2
      have hn := HD1.out.box.lt
      have HSTART : Hid (Dsk w1 base n ⟨nn, .slice af D.firm.length cf, .slice aw D.wait.length cw⟩ { D1 with firm := laid D.firm (D.wait.take 0) }) := by
        have e : ({ D1 with firm := laid D.firm (D.wait.take 0) } : Dk) = D1 := by rw [List.take_zero, ← hf1]; rfl
        rw [e]; exact HD1.out
      have hBw : base ≤ w1.heap.size := Nat.le_trans hb HG1.out.touch.size
      clear hD1 hw1 hf1
      go_wp2_with fail
      go_loopw [18] (fun i wr => ∃ k : Nat, k ≤ D.wait.length ∧ i = .int .i64 k ∧ Dsk wr base n ⟨nn, .slice af D.firm.length cf, .slice aw D.wait.length cw⟩ { D1 with firm := laid D.firm (D.wait.take k) } ∧ Goes w1 wr n ⟨nn, .slice af D.firm.length cf, .slice aw D.wait.length cw⟩ ⟨nn, .slice af D.firm.length cf, .slice aw D.wait.length cw⟩) (fun i _ => D.wait.length - (intOf i).toNat)
      case atStart => exact ⟨0, Nat.zero_le _, rfl, HSTART.out, Goes.refl _ _ _⟩
      case round =>
        obtain ⟨k, hk, rfl, hDr, hGr⟩ := hrel
        have HDR := Lib.hid hDr
        have HGR := Lib.hid hGr
        clear HSTART c2 hn
        have hn := hDr.box.lt
        by_cases hlt : k < D.wait.length
        · obtain ⟨x, hx⟩ : ∃ x, D.wait[k]? = some x := ⟨_, List.getElem?_eq_getElem hlt⟩
          have hxl := HG.out.lies x (List.mem_of_getElem? hx)
          rw [← HG.out.same] at hxl
          have hx64 := HG.out.fullw x (List.mem_of_getElem? hx)
          have hlf : (laid D.firm (D.wait.take k)).length = D.firm.length := laid_len _ _
          have hrw := hDr.rw
          have hrf := hDr.rf
          simp only [HW1.out, hlf] at hrw hrf
          obtain ⟨g, rfl, hgb, hgl, hR⟩ := wait_range hrw HG.out.fullw hx rfl
          obtain ⟨gf, rfl, hfb, hfl, _⟩ := own_at hrf 0 (by omega)
          have hwl := HWL.out
          have HX64 := Lib.hid hx64
          have HLT := Lib.hid hlt
          have HXL := Lib.hid hxl
          have HLX := Lib.hid (laid_take D.firm D.wait k x hx)
          have HFU := Lib.hid (laid_full (l := D.firm) (ws := D.wait.take k) HG.out.fullf (HG.out.fullw.take k))
          have HRA := Lib.hid hR
          have HSW := Lib.hid (show (Try.prog.info? 83).map (·.size) = some (wc x).length by rw [wc_len, hx64]; exact isz68)
          have HSWA := Lib.hid (show (Try.prog.info? 83).map (·.size) = some (wc x).toArray.size by rw [List.size_toArray, wc_len, hx64]; exact isz68)
          have HSZ := Lib.hid (show (Try.prog.info? 81).map (·.size) = some (bc x.2).length by rw [bc_len, hx64]; exact isz63)
          have HSA := Lib.hid (show (Try.prog.info? 81).map (·.size) = some (bc x.2).toArray.size by rw [List.size_toArray, bc_len, hx64]; exact isz63)
          have HONW := Lib.hid (all_oneCell_toArray (wc_one x))
          have HONE := Lib.hid (all_oneCell_toArray (bc_one x.2))
          obtain ⟨zs, hz, hzs, hzn, hzz⟩ := zero68
          have HTH : Hid ((wr.alloc (.cells zs 83)).there wr.heap.size 0 (wc x).toArray.size) := by have := there_newW wr x hx64; rw [← hzz] at this; exact this
          have HNW : Hid ((wr.alloc (.cells zs 83)).setCells wr.heap.size 0 (wc x).toArray.toList = wr.alloc (.cells (wc x).toArray 83)) := by have := new_wholeW wr x hx64; rw [← hzz] at this; exact this
          have HX := Lib.hid (Box.new wr 83 (wc x).toArray)
          have HDA := Lib.hid (hDr.alloc (.cells (wc x).toArray 83))
          have HGA := Lib.hid (hGr.alloc (.cells (wc x).toArray 83))
          have hlf' : ({ D1 with firm := laid D.firm (D.wait.take k) } : Dk).firm.length = D.firm.length := hlf
          have hki : (k : Int) < (D.wait.length : Int) := by omega
          have HFO := Lib.hid (own_stays hrf (w' := wr.alloc (.cells (wc x).toArray 83)) (fun b hb => Below.heap_alloc wr _ b (own_lt hrf b hb)))
          have hng : wr.heap.size ≠ gf := by omega
          clear hDr hGr hR hrw hrf hx64 hx hlf hlf' hzz
          go_wp2_with (first | (with_reducible refine wpList_load_mid rfl 83 (.tmp 20) rfl g (k * 65) rfl (wc x) _ HRA.out Try.underlying83 rfl HSW.out ?_) | (with_reducible refine wpList_store_mid rfl 83 (.tmp 4) (.tmp 21) rfl wr.heap.size 0 (wc x).toArray rfl rfl HTH.out HSWA.out HONW.out ?_; rw [HNW.out]))
          go_wp2_with fail
          try simp only [put_none]
          generalize wr.alloc (.cells (wc x).toArray 83) = wa at HX HDA HGA HFO ⊢
          refine wp_region_phase (fun w' => Box w' n 78 #[nn, .slice (some ⟨gf, 0, none⟩) D.firm.length cf, .slice (some ⟨g, 0, none⟩) D.wait.length cw, .int .i64 D1.armed, .bool D1.dead] ∧ Box w' wr.heap.size 83 (wc x).toArray) [true, true, true, true, true, true, true, true, false, false] 9 _ _ _ (by kernel_rfl) rfl rfl (by kernel_rfl) rfl rfl (fun _ _ _ _ _ h => h) (⟨HDA.out.box.drew, HX.out.drew⟩) ?_
          intro S HS
          simp only [taken, leftOut]
          go_big_quiet_want; go_big_quiet_op; go_big_quiet_on
          go_big_quiet_want; apply quiet_value; (· (intro w' hw; have hbx := ((HS.out _).1 hw).1; have c1 : w'.cell? ⟨n, 1, none⟩ = some (.slice (some ⟨gf, 0, none⟩) D.firm.length cf) := hbx.cell 1; have hn := hbx.lt; go_simp; try rfl)); simp only [Act.put, List.setIfInBounds_toArray, List.set_cons_succ, List.set_cons_zero]; go_big_quiet_on
          go_big_quiet_want; apply quiet_value; (· (intro w' hw; have hbx := ((HS.out _).1 hw).1; have c1 : w'.cell? ⟨n, 1, none⟩ = some (.slice (some ⟨gf, 0, none⟩) D.firm.length cf) := hbx.cell 1; have hn := hbx.lt; go_simp; try rfl)); simp only [Act.put, List.setIfInBounds_toArray, List.set_cons_succ, List.set_cons_zero]; go_big_quiet_on
          go_big_quiet_want; apply quiet_value; (· (intro w' hw; have hbx := ((HS.out _).1 hw).1; have c1 : w'.cell? ⟨n, 1, none⟩ = some (.slice (some ⟨gf, 0, none⟩) D.firm.length cf) := hbx.cell 1; have hn := hbx.lt; go_simp; try rfl)); simp only [Act.put, List.setIfInBounds_toArray, List.set_cons_succ, List.set_cons_zero]; go_big_quiet_on
          go_big_quiet_want; apply quiet_value; (· (intro w' hw; go_simp; try rfl)); simp only [Act.put, List.setIfInBounds_toArray, List.set_cons_succ, List.set_cons_zero]; go_big_quiet_on
          go_big_quiet_want; apply quiet_value; (· (intro w' hw; have x0 := box_fst ((HS.out _).1 hw).2; go_simp; try rfl)); simp only [Act.put, List.setIfInBounds_toArray, List.set_cons_succ, List.set_cons_zero]; go_big_quiet_on
          go_big_quiet_want; apply quiet_value; (· (intro w' hw; go_simp; try rfl)); simp only [Act.put, List.setIfInBounds_toArray, List.set_cons_succ, List.set_cons_zero]; go_big_quiet_on
          go_big_quiet_want; apply quiet_value; (· (intro w' hw; exact exec_load_mid 81 (.tmp 28) rfl wr.heap.size 1 rfl (bc x.2) _ (box_rangeW ((HS.out _).1 hw).2) Try.underlying81 rfl HSZ.out)); simp only [Act.put, List.setIfInBounds_toArray, List.set_cons_succ, List.set_cons_zero]; go_big_quiet_on
          refine wpQuiet_nil ?_
          refine wpTail_more ?_
          have hxi : (x.1 : Int) < (D.firm.length : Int) := by omega
          go_wp2_with fail
          refine ThenS.mk ((HS.out _).2 ⟨HDA.out.box.drew, HX.out.drew⟩) ?_
          refine wpTail_last ?_
          have HTH2 : Hid (wa.drew.there gf (x.1 * 64) (bc x.2).toArray.size) := by rw [List.size_toArray, bc_len, HX64.out]; exact now_there (l := laid D.firm (D.wait.take k)) HFO.out HFU.out (by rw [laid_len]; omega) (laid_len _ _) rfl
          go_wp2_with (with_reducible refine wpList_store_mid rfl 81 (.tmp 30) (.tmp 29) rfl gf (x.1 * 64) (bc x.2).toArray rfl rfl HTH2.out HSA.out HONE.out ?_; simp only [put_none])
          go_roundw
          case rel =>
            refine ⟨k + 1, HLT.out, by go_num, ?_, ⟨touch_sets HGA.out.touch.drew (.inr (.inr (.inl rfl))) _ _, HGA.out.lies⟩⟩
            rw [HLX.out]
            exact HDA.out.drew.setFirm (c := cf) HFU.out (by rw [laid_len]) x.1 x.2 (by rw [laid_len]; exact HXL.out) HX64.out
          case measure => have := HLT.out; simp [intOf]; omega
        · obtain rfl : k = D.wait.length := by omega
          have c2 : wr.cell? ⟨n, 2, none⟩ = some (.slice aw D.wait.length cw) := hDr.box.cell 2
          have f2 := hDr.box.frozen 2
          clear hDr hGr
          go_wp2
          go_ret
          refine ⟨by rw [HE0.out]; rfl, _, ?_, HG1.out.trans (HGR.out.trans Goes.last)⟩
          refine HDR.out.last D' _ rfl ?_
          rw [HD0.out, List.take_length]
end Go.Proofs.Ytdiboicllolcnaa
