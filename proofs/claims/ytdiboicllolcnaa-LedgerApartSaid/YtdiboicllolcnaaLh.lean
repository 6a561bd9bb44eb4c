/- ledger: sectors are written. Conditions: the ledger lies in the call's own memory. -/
import Derived.Test.YtdiboicllolcnaaLg
namespace Go.Proofs.Ytdiboicllolcnaa
open Go Go.RowKit
set_option linter.unusedVariables false
set_option linter.unusedSimpArgs false
section
variable {w w' : World} {base n : Nat} {V V' : Vs} {D : Dk}
/-! what stays true of a disk -/
theorem good_new (m : Int) : Good (newD m) := by
  have hf : Full (List.replicate (min (max m 0) 65536).toNat zsec) := fun s hs => by rw [(List.mem_replicate.1 hs).2]; rfl
  exact ⟨hf, hf, fun x hx => (by cases hx), rfl, by simp [newD]; omega, fun x hx => (by cases hx), ⟨Int.le_refl _, by simp [newD]⟩, rfl⟩
theorem good_dies (h : Good D) : Good (diesD D) := by
  have := h.arm
  unfold diesD
  split
  · exact h
  · exact ⟨h.fulln, h.fullf, h.fullw, h.same, h.many, h.lies, ⟨by simp only []; omega, by simp only []; omega⟩, h.is⟩
theorem good_put (h : Good D) (k : Nat) (s : Sec) (hk : k < D.now.length) (hs : s.length = 64) : Good (putD D k s) := by
  refine ⟨h.fulln.set k s hs, h.fullf, ?_, ?_, ?_, ?_, h.arm, ?_⟩
  · intro x hx
    rcases List.mem_append.1 hx with hx | hx
    · exact h.fullw x hx
    · simp at hx; subst hx; exact hs
  · simp [putD]; exact h.same
  · simp [putD]; exact h.many
  · intro x hx
    simp only [putD, List.length_set]
    rcases List.mem_append.1 hx with hx | hx
    · exact h.lies x hx
    · simp at hx; subst hx; exact hk
  · simp only [putD]; rw [laid_snoc, ← h.is]
theorem good_sync (h : Good D) : Good (syncD D) := by
  unfold syncD
  split
  · exact h
  · split
    · exact good_dies h
    · have hn : (diesD D).now = D.now := by unfold diesD; split <;> rfl
      have hg := good_dies h
      refine ⟨hg.fulln, laid_full h.fullf h.fullw, fun x hx => (by cases hx), ?_, hg.many, fun x hx => (by cases hx), hg.arm, ?_⟩
      · simp only [hn, laid_len]; exact h.same
      · simp only [hn]; exact h.is
theorem crashL_full (h : Good D) (keep tear : Int) : Full (crashL D keep tear) ∧ (crashL D keep tear).length = D.firm.length := by
  have hl := laid_len D.firm (D.wait.take (keepN D keep))
  have hf := laid_full (l := D.firm) (ws := D.wait.take (keepN D keep)) h.fullf (h.fullw.take _)
  unfold crashL
  split
  · rename_i x hx
    have hx64 := h.fullw x (List.mem_of_getElem? hx)
    have hxl := h.lies x (List.mem_of_getElem? hx)
    rw [← h.same, ← hl] at hxl
    refine ⟨hf.set _ _ (torn_len (hf _ (by rw [List.getD_eq_getElem?_getD, List.getElem?_eq_getElem hxl]; exact List.getElem_mem hxl)) hx64 _ (by unfold tearN; omega)), by rw [List.length_set]; exact hl⟩
  · exact ⟨hf, hl⟩
theorem good_crash (h : Good D) (keep tear : Int) : Good (crashD D keep tear) := by
  obtain ⟨h1, h2⟩ := crashL_full h keep tear
  exact ⟨h1, h1, fun x hx => (by cases hx), rfl, by simp only [crashD]; rw [h2, h.same]; exact h.many, fun x hx => (by cases hx), ⟨Int.le_refl _, by simp [crashD]⟩, rfl⟩

theorem dies_now (D : Dk) : (diesD D).now = D.now := by unfold diesD; split <;> rfl
theorem dies_wait (D : Dk) : (diesD D).wait = D.wait := by unfold diesD; split <;> rfl
theorem dies_firm (D : Dk) : (diesD D).firm = D.firm := by unfold diesD; split <;> rfl
theorem dies_dead (D : Dk) (h : D.dead = false) : (diesD D).dead = diesB D := by
  unfold diesD diesB
  split
  · exact h
  · rfl
/-- one write on a disk that is not dead. -/
def wr1 (D : Dk) (k : Nat) (c : Sec) : Dk := diesD (putD D k (pad c))
theorem wr1_of (k : Nat) (c : Sec) (hd : D.dead = false) (hk : k < D.now.length) (hc : c.length ≤ 64) : wrD D (k : Int) c = wr1 D k c ∧ wrE D (k : Int) c.length = if diesB D then 40 else 0 := by
  have hm := may_live hd hk
  constructor
  · unfold wrD wr1
    rw [if_neg (by omega), Int.toNat_natCast]
  · unfold wrE
    rw [if_neg (fun h => h hm), if_neg (by omega)]
theorem wr1_len (D : Dk) (k : Nat) (c : Sec) : (wr1 D k c).now.length = D.now.length := by unfold wr1; rw [dies_now]; exact List.length_set ..
theorem wr1_wait (D : Dk) (k : Nat) (c : Sec) : (wr1 D k c).wait.length = D.wait.length + 1 := by unfold wr1; rw [dies_wait]; simp [putD]
theorem good_wr1 (h : Good D) (k : Nat) (c : Sec) (hk : k < D.now.length) (hc : c.length ≤ 64) : Good (wr1 D k c) := good_dies (good_put h k _ hk (pad_len hc))
theorem wr1_dead (k : Nat) (c : Sec) (hd : D.dead = false) : (wr1 D k c).dead = diesB D := dies_dead (putD D k (pad c)) hd
end
variable {w w' : World} {base n nd b0 : Nat} {V V' : Vl} {VD VD' : Vs} {D D' : Dk} {G G' : Lg}
def chunk (b : Sec) (k : Nat) : Sec := (b.drop (k * 64)).take 64
theorem chunk_len (b : Sec) (k : Nat) : (chunk b k).length = min 64 (b.length - k * 64) := by unfold chunk; rw [List.length_take, List.length_drop]
/-- a half's bytes are written, from one sector on; false: the disk died. -/
def wrAll (first : Nat) (b : Sec) : Nat → Nat → Dk → Dk × Bool
  | 0, _, D => (D, true)
  | f + 1, k, D => if k * 64 < b.length then (if diesB D then (wr1 D (first + k) (chunk b k), false) else wrAll first b f (k + 1) (wr1 D (first + k) (chunk b k))) else (D, true)
theorem bys_stay {ad : Option Addr} {m c : Nat} {b : Sec} (h : w.ownsRow b0 5 1 (.slice ad m c) m (bc b)) (hm : m ≤ maxLen) : Bys w ad m b := bys_own h hm
/-- what write answers. -/
def WritePost (w : World) (b0 base n nd : Nat) (V : Vl) (VD : Vs) (G : Lg) (b : Sec) (ad : Option Addr) (cap : Nat) (r : Dk × Bool) (e : Ending) (w' : World) : Prop :=
  ∃ VD', e = .returned (.int .i64 (if r.2 then 0 else 40)) ∧ Ldg w' base n nd V VD' r.1 { G with dead := !r.2 } ∧ GoesL w w' n nd V V VD VD' ∧ w'.ownsRow b0 5 1 (.slice ad b.length cap) b.length (bc b)
set_option maxRecDepth 100000 in
set_option maxHeartbeats 8000000 in
theorem lwrite_any (half from_ : Nat) (ad : Option Addr) (cap : Nat) (b : Sec) (h : Ldg w base n nd V VD D G) (hb : base ≤ w.heap.size) (hf : Fits G D) (hg : Good D) (hh : half < 2) (hG : G.dead = false) (hd : D.dead = false)
    (hv : w.ownsRow b0 5 1 (.slice ad b.length cap) b.length (bc b)) (hfr : from_ ≤ 10000000) (hbl : b.length ≤ G.size * 64) (hwl : D.wait.length + G.size ≤ 900000) :
    Calls Try.prog 35 #[.pointer (some ⟨n, 0, none⟩), .int .i64 half, .slice ad b.length cap, .int .i64 from_] w (WritePost w b0 base n nd V VD G b ad cap (wrAll (firstG G half) b (G.size + 1) (from_ / 64) D)) := by
  have hcap : b.length ≤ cap := by
    obtain ⟨a2, c2, e, h2⟩ := own_shape hv
    simp only [Value.slice.injEq] at e
    rw [e.2.2]; exact h2
  have hz1 := hf.size
  have hz2 := hf.disk
  have HF0 := Lib.hid hf
  have HGD := Lib.hid hG
  have HL0 := Lib.hid h
  have HV0 := Lib.hid hv
  have HG0 := Lib.hid hg
  have hd0 := Lib.hid hd
  obtain ⟨K0, hK0⟩ : ∃ K0, K0 = from_ / 64 := ⟨_, rfl⟩
  have q1 : ((from_ : Int)) / 64 = (K0 : Int) := by omega
  have hK1 : K0 ≤ 1000000 := by omega
  rw [← hK0]
  have hfirst : firstG G half + G.size ≤ D.now.length := by
    have h3 : half * G.size ≤ 1 * G.size := Nat.mul_le_mul_right _ (by omega)
    unfold firstG
    omega
  clear h hf hg hG hd hv hK0
  go_enter Try.func35, Try.ntmps35
  go_wp2_with fail
  go_loopw [9, 10] (fun i _ wr => ∃ (k : Nat) (VDk : Vs) (Dk : Dk) (f : Nat), i = .int .i64 k ∧ wrAll (firstG G half) b (G.size + 1) K0 D = wrAll (firstG G half) b f k Dk ∧ G.size + 1 ≤ f + k ∧ k ≤ 10000000 ∧ Ldg wr base n nd V VDk Dk G ∧ GoesL w wr n nd V V VD VDk ∧ wr.ownsRow b0 5 1 (.slice ad b.length cap) b.length (bc b) ∧ Good Dk ∧ Dk.dead = false ∧ Dk.now.length = D.now.length ∧ Dk.wait.length ≤ D.wait.length + k) (fun i _ _ => G.size + 1 - (intOf i).toNat)
  case atStart => exact ⟨K0, VD, D, G.size + 1, rfl, rfl, by omega, by omega, HL0.out, GoesL.of_below (Below.refl _ _), HV0.out, HG0.out, hd0.out, rfl, by omega⟩
  case round =>
    obtain ⟨k, VDk, Dk, f, rfl, hW, hf1, hkm, hL, hGo, hV, hGk, hdk, hnl, hwk⟩ := hrel
    have HL := Lib.hid hL
    have HGO := Lib.hid hGo
    have HV := Lib.hid hV
    have HGK := Lib.hid hGk
    have HFW := Lib.hid hW
    have HF := Lib.hid (show Fits G Dk from ⟨HF0.out.size0, by rw [hnl]; exact HF0.out.size, by rw [hnl]; exact HF0.out.disk, HF0.out.half, HF0.out.b⟩)
    clear hL hGo hV hGk hW
    by_cases hlt : k * 64 < b.length
    · have hks : k < G.size := by omega
      have hfk : firstG G half + k < Dk.now.length := by omega
      have hlt2 : (k : Int) * 64 < (b.length : Int) := by omega
      obtain ⟨f, rfl⟩ : ∃ f', f = f' + 1 := ⟨f - 1, by omega⟩
      have HWL := Lib.hid (show Dk.wait.length ≤ 1000000 by omega)
      have HDKE := Lib.hid hdk
      have HLT := Lib.hid hlt
      have hGd := HGD.out
      by_cases hfull : (k + 1) * 64 < b.length
      · have hf1 : ((k : Int) + 1) * 64 < (b.length : Int) := by omega
        obtain ⟨ac, cc2, sm, hcm, hBm, _⟩ := slice_mid (bys_own HV.out (by unfold maxLen; omega)) hcap (k * 64) ((k + 1) * 64) (by omega) (by omega) (by omega)
        obtain ⟨c, hc⟩ : ∃ c, c = chunk b k := ⟨_, rfl⟩
        have hcl : c.length = (k + 1) * 64 - k * 64 := by rw [hc, chunk_len]; omega
        have hc2 : (b.drop (k * 64)).take ((k + 1) * 64 - k * 64) = c := by
          rw [hc]; unfold chunk
          congr 1; omega
        rw [hc2, ← hcl] at hBm
        rw [← hcl] at sm
        have e1 : ((k * 64 : Nat) : Int) = (k : Int) * 64 := by omega
        have e2 : (((k + 1) * 64 : Nat) : Int) = ((k : Int) + 1) * 64 := by omega
        rw [e1, e2] at sm
        have HBC := Lib.hid hBm
        have hc64 : c.length ≤ 64 := by omega
        obtain ⟨h1, h2⟩ := wr1_of (firstG G half + k) c hdk hfk hc64
        have HWD := Lib.hid h1
        have HCE := Lib.hid hc
        clear h1 hc hcl hc2 e1 e2 hBm
        cases hdb : diesB Dk
        · rw [hdb] at h2
          have HWE := Lib.hid h2
          have HDB := Lib.hid hdb
          have HDG := Lib.hid (show didG G 0 = { G with dead := false } by unfold didG; rw [hGd]; rfl)
          have HDE := Lib.hid (show didE G 0 = 0 by unfold didE; rw [hGd]; rfl)
          clear h2 hdb hGd
          go_upto_region 5 with (fail)
          refine wp_region_steps (fun w' => w'.cell? ⟨n, 0, none⟩ = some (.pointer (some ⟨nd, 0, none⟩))) [(true, 0), (true, 1), (true, 2), (true, 3), (true, 4), (true, 5), (true, 6), (true, 8), (true, 10), (false, 7), (true, 9), (false, 11), (false, 12), (false, 13)] 13 _ _ (by kernel_rfl) rfl (by kernel_rfl) (by kernel_rfl) rfl (fun _ _ _ _ _ h => h) (HL.out.box.drew.cell 0) ?_
          intro S HS
          simp only [pickS, List.getElem?_cons_zero, List.getElem?_cons_succ]
          refine wpSteps_head ?_
          go_big_quiet_want; go_big_quiet_op; go_big_quiet_on
          refine wpQuiet_nil ?_
          refine wpSteps_head ?_
          go_big_quiet_want; go_big_quiet_op; go_big_quiet_on
          refine wpQuiet_nil ?_
          refine wpSteps_head ?_
          go_big_quiet_want; apply quiet_value; (· (intro w' hw; have hB := (HS.out _).1 hw; have hbl := World.block_lt_of_cell? _ _ hB; go_simp; try rfl)); simp only [Act.put, List.setIfInBounds_toArray, List.set_cons_succ, List.set_cons_zero]; go_big_quiet_on
          refine wpQuiet_nil ?_
          refine wpSteps_head ?_
          go_big_quiet_want; apply quiet_value; (· (intro w' hw; have hB := (HS.out _).1 hw; have hbl := World.block_lt_of_cell? _ _ hB; go_simp; try rfl)); simp only [Act.put, List.setIfInBounds_toArray, List.set_cons_succ, List.set_cons_zero]; go_big_quiet_on
          refine wpQuiet_nil ?_
          refine wpSteps_head ?_
          go_big_quiet_want; apply quiet_value; (· (intro w' hw; have hB := (HS.out _).1 hw; have hbl := World.block_lt_of_cell? _ _ hB; go_simp; try rfl)); simp only [Act.put, List.setIfInBounds_toArray, List.set_cons_succ, List.set_cons_zero]; go_big_quiet_on
          refine wpQuiet_nil ?_
          refine wpSteps_head ?_
          go_big_quiet_want; go_big_quiet_op; go_big_quiet_on
          refine wpQuiet_nil ?_
          refine wpSteps_head ?_
          go_big_quiet_want; go_big_quiet_op; go_big_quiet_on
          refine wpQuiet_nil ?_
          refine wpSteps_head ?_
          go_big_quiet_want; go_big_quiet_op; go_big_quiet_on
          refine wpQuiet_nil ?_
          refine wpSteps_head ?_
          go_big_quiet_want; go_big_quiet_op; go_big_quiet_on
          refine wpQuiet_nil ?_
          refine wpSteps_more ?_
          go_wp2_with fail
          refine (first_any half HL.out.drew' HF.out hh).mono ?_
          rintro e w5 ⟨rfl, b5⟩
          have hb5 := (Below.refl wr.heap.size wr).drew.trans b5
          have HL5 := Lib.hid (HL.out.bel hb5)
          have HG5 := Lib.hid (HGO.out.below_r hb5)
          have HV5 := Lib.hid (own_stays HV.out (w' := w5) fun j hj => hb5.block j (own_lt HV.out j hj))
          have HC5 := Lib.hid (HBC.out.bel hb5)
          clear b5 hb5
          go_wp2_with fail
          refine ThenS.mk ((HS.out _).2 (HL5.out.box.cell 0)) ?_
          refine wpSteps_head ?_
          go_big_quiet_want; apply quiet_value; (· (intro w' hw; go_simp; try rfl)); simp only [Act.put, List.setIfInBounds_toArray, List.set_cons_succ, List.set_cons_zero]; go_big_quiet_on
          refine wpQuiet_nil ?_
          refine wpSteps_more ?_
          go_wp2_with fail
          refine (write_any ((firstG G half + k : Nat) : Int) c ac c.length cc2 HL5.out.dsk (Nat.le_trans hb HG5.out.touch.size) HGK.out HC5.out HWL.out).mono ?_
          rintro e w6 ⟨rfl, VD6, hD6, hG6⟩
          rw [HWE.out]
          rw [HWD.out] at hD6
          have HL6 := Lib.hid (HL5.out.disk hD6 hG6)
          have HG6 := Lib.hid (HG5.out.trans (GoesL.disk hG6))
          have HV6 := Lib.hid (own_touch HV5.out hG6.touch (fun b hb => HL5.out.dsk.notRow HV5.out (by decide) (by decide) (by decide) hb))
          clear hD6 hG6 HL5 HG5 HV5 HC5
          go_wp2_with fail
          refine ThenS.mk ((HS.out _).2 (HL6.out.box.cell 0)) ?_
          refine wpSteps_more ?_
          go_wp2_with fail
          refine (did_any 0 HL6.out).mono ?_
          rintro e w7 ⟨rfl, hL7, hG7, hT7⟩
          rw [HDG.out] at hL7
          rw [HDE.out]
          have HL7 := Lib.hid hL7
          have HG7 := Lib.hid (HG6.out.trans hG7)
          have HV7 := Lib.hid (own_touch HV6.out hT7 (fun j hj e => own_box_ne HV6.out HL6.out.box (by decide) (e ▸ hj)))
          clear hL7 hG7 hT7 HL6 HG6 HV6
          go_wp2_with fail
          refine ThenS.mk ((HS.out _).2 (HL7.out.box.cell 0)) ?_
          refine wpSteps_last ?_
          go_wp2_with fail
          go_roundw
          case rel =>
            refine ⟨k + 1, VD6, wr1 Dk (firstG G half + k) c, f, by go_num, ?_, by omega, by omega, ?_, HG7.out, HV7.out, good_wr1 HGK.out _ _ hfk hc64, by rw [wr1_dead _ _ HDKE.out]; exact HDB.out, by rw [wr1_len]; exact hnl, by rw [wr1_wait]; omega⟩
            · rw [HFW.out, wrAll, if_pos HLT.out, HDB.out, ← HCE.out]
              rfl
            · have h1 := HL7.out
              have h2 : ({ G with dead := false } : Lg) = G := by rw [← HGD.out]
              rw [h2] at h1
              exact h1
          case measure => simp [intOf]; omega
        · rw [hdb] at h2
          have HWE := Lib.hid h2
          have HDB := Lib.hid hdb
          have HDG := Lib.hid (show didG G 40 = { G with dead := true } by unfold didG; rw [hGd]; rfl)
          have HDE := Lib.hid (show didE G 40 = 40 by unfold didE; rw [hGd]; rfl)
          clear h2 hdb hGd
          go_upto_region 5 with (fail)
          refine wp_region_steps (fun w' => w'.cell? ⟨n, 0, none⟩ = some (.pointer (some ⟨nd, 0, none⟩))) [(true, 0), (true, 1), (true, 2), (true, 3), (true, 4), (true, 5), (true, 6), (true, 8), (true, 10), (false, 7), (true, 9), (false, 11), (false, 12), (false, 13)] 13 _ _ (by kernel_rfl) rfl (by kernel_rfl) (by kernel_rfl) rfl (fun _ _ _ _ _ h => h) (HL.out.box.drew.cell 0) ?_
          intro S HS
          simp only [pickS, List.getElem?_cons_zero, List.getElem?_cons_succ]
          refine wpSteps_head ?_
          go_big_quiet_want; go_big_quiet_op; go_big_quiet_on
          refine wpQuiet_nil ?_
          refine wpSteps_head ?_
          go_big_quiet_want; go_big_quiet_op; go_big_quiet_on
          refine wpQuiet_nil ?_
          refine wpSteps_head ?_
          go_big_quiet_want; apply quiet_value; (· (intro w' hw; have hB := (HS.out _).1 hw; have hbl := World.block_lt_of_cell? _ _ hB; go_simp; try rfl)); simp only [Act.put, List.setIfInBounds_toArray, List.set_cons_succ, List.set_cons_zero]; go_big_quiet_on
          refine wpQuiet_nil ?_
          refine wpSteps_head ?_
          go_big_quiet_want; apply quiet_value; (· (intro w' hw; have hB := (HS.out _).1 hw; have hbl := World.block_lt_of_cell? _ _ hB; go_simp; try rfl)); simp only [Act.put, List.setIfInBounds_toArray, List.set_cons_succ, List.set_cons_zero]; go_big_quiet_on
          refine wpQuiet_nil ?_
          refine wpSteps_head ?_
          go_big_quiet_want; apply quiet_value; (· (intro w' hw; have hB := (HS.out _).1 hw; have hbl := World.block_lt_of_cell? _ _ hB; go_simp; try rfl)); simp only [Act.put, List.setIfInBounds_toArray, List.set_cons_succ, List.set_cons_zero]; go_big_quiet_on
          refine wpQuiet_nil ?_
          refine wpSteps_head ?_
          go_big_quiet_want; go_big_quiet_op; go_big_quiet_on
          refine wpQuiet_nil ?_
          refine wpSteps_head ?_
          go_big_quiet_want; go_big_quiet_op; go_big_quiet_on
          refine wpQuiet_nil ?_
          refine wpSteps_head ?_
          go_big_quiet_want; go_big_quiet_op; go_big_quiet_on
          refine wpQuiet_nil ?_
          refine wpSteps_head ?_
          go_big_quiet_want; go_big_quiet_op; go_big_quiet_on
          refine wpQuiet_nil ?_
          refine wpSteps_more ?_
          go_wp2_with fail
          refine (first_any half HL.out.drew' HF.out hh).mono ?_
          rintro e w5 ⟨rfl, b5⟩
          have hb5 := (Below.refl wr.heap.size wr).drew.trans b5
          have HL5 := Lib.hid (HL.out.bel hb5)
          have HG5 := Lib.hid (HGO.out.below_r hb5)
          have HV5 := Lib.hid (own_stays HV.out (w' := w5) fun j hj => hb5.block j (own_lt HV.out j hj))
          have HC5 := Lib.hid (HBC.out.bel hb5)
          clear b5 hb5
          go_wp2_with fail
          refine ThenS.mk ((HS.out _).2 (HL5.out.box.cell 0)) ?_
          refine wpSteps_head ?_
          go_big_quiet_want; apply quiet_value; (· (intro w' hw; go_simp; try rfl)); simp only [Act.put, List.setIfInBounds_toArray, List.set_cons_succ, List.set_cons_zero]; go_big_quiet_on
          refine wpQuiet_nil ?_
          refine wpSteps_more ?_
          go_wp2_with fail
          refine (write_any ((firstG G half + k : Nat) : Int) c ac c.length cc2 HL5.out.dsk (Nat.le_trans hb HG5.out.touch.size) HGK.out HC5.out HWL.out).mono ?_
          rintro e w6 ⟨rfl, VD6, hD6, hG6⟩
          rw [HWE.out]
          rw [HWD.out] at hD6
          have HL6 := Lib.hid (HL5.out.disk hD6 hG6)
          have HG6 := Lib.hid (HG5.out.trans (GoesL.disk hG6))
          have HV6 := Lib.hid (own_touch HV5.out hG6.touch (fun b hb => HL5.out.dsk.notRow HV5.out (by decide) (by decide) (by decide) hb))
          clear hD6 hG6 HL5 HG5 HV5 HC5
          go_wp2_with fail
          refine ThenS.mk ((HS.out _).2 (HL6.out.box.cell 0)) ?_
          refine wpSteps_more ?_
          go_wp2_with fail
          refine (did_any 40 HL6.out).mono ?_
          rintro e w7 ⟨rfl, hL7, hG7, hT7⟩
          rw [HDG.out] at hL7
          rw [HDE.out]
          have HL7 := Lib.hid hL7
          have HG7 := Lib.hid (HG6.out.trans hG7)
          have HV7 := Lib.hid (own_touch HV6.out hT7 (fun j hj e => own_box_ne HV6.out HL6.out.box (by decide) (e ▸ hj)))
          clear hL7 hG7 hT7 HL6 HG6 HV6
          go_wp2_with fail
          refine ThenS.mk ((HS.out _).2 (HL7.out.box.cell 0)) ?_
          refine wpSteps_last ?_
          go_wp2_with fail
          go_ret
          have HEND : wrAll (firstG G half) b (G.size + 1) K0 D = (wr1 Dk (firstG G half + k) c, false) := by
            rw [HFW.out, wrAll, if_pos HLT.out, HDB.out, ← HCE.out]
            rfl
          exact ⟨VD6, by rw [HEND]; rfl, by rw [HEND]; exact HL7.out, HG7.out, HV7.out⟩
      · have hf1 : ¬ ((k : Int) + 1) * 64 < (b.length : Int) := by omega
        obtain ⟨ac, cc2, sm, hcm, hBm, _⟩ := slice_mid (bys_own HV.out (by unfold maxLen; omega)) hcap (k * 64) (b.length) (by omega) (by omega) (by omega)
        obtain ⟨c, hc⟩ : ∃ c, c = chunk b k := ⟨_, rfl⟩
        have hcl : c.length = b.length - k * 64 := by rw [hc, chunk_len]; omega
        have hc2 : (b.drop (k * 64)).take (b.length - k * 64) = c := by
          rw [hc]; unfold chunk
          rw [List.take_of_length_le (by rw [List.length_drop]; omega), List.take_of_length_le (by rw [List.length_drop]; omega)]
        rw [hc2, ← hcl] at hBm
        rw [← hcl] at sm
        have e1 : ((k * 64 : Nat) : Int) = (k : Int) * 64 := by omega
        have e2 : ((b.length : Nat) : Int) = (b.length : Int) := by omega
        rw [e1, e2] at sm
        have HBC := Lib.hid hBm
        have hc64 : c.length ≤ 64 := by omega
        obtain ⟨h1, h2⟩ := wr1_of (firstG G half + k) c hdk hfk hc64
        have HWD := Lib.hid h1
        have HCE := Lib.hid hc
        clear h1 hc hcl hc2 e1 e2 hBm
        cases hdb : diesB Dk
        · rw [hdb] at h2
          have HWE := Lib.hid h2
          have HDB := Lib.hid hdb
          have HDG := Lib.hid (show didG G 0 = { G with dead := false } by unfold didG; rw [hGd]; rfl)
          have HDE := Lib.hid (show didE G 0 = 0 by unfold didE; rw [hGd]; rfl)
          clear h2 hdb hGd
          go_upto_region 5 with (fail)
          refine wp_region_steps (fun w' => w'.cell? ⟨n, 0, none⟩ = some (.pointer (some ⟨nd, 0, none⟩))) [(true, 0), (true, 1), (true, 2), (true, 3), (true, 4), (true, 5), (true, 6), (true, 8), (true, 10), (false, 7), (true, 9), (false, 11), (false, 12), (false, 13)] 13 _ _ (by kernel_rfl) rfl (by kernel_rfl) (by kernel_rfl) rfl (fun _ _ _ _ _ h => h) (HL.out.box.drew.cell 0) ?_
          intro S HS
          simp only [pickS, List.getElem?_cons_zero, List.getElem?_cons_succ]
          refine wpSteps_head ?_
          go_big_quiet_want; go_big_quiet_op; go_big_quiet_on
          refine wpQuiet_nil ?_
          refine wpSteps_head ?_
          go_big_quiet_want; go_big_quiet_op; go_big_quiet_on
          refine wpQuiet_nil ?_
          refine wpSteps_head ?_
          go_big_quiet_want; apply quiet_value; (· (intro w' hw; have hB := (HS.out _).1 hw; have hbl := World.block_lt_of_cell? _ _ hB; go_simp; try rfl)); simp only [Act.put, List.setIfInBounds_toArray, List.set_cons_succ, List.set_cons_zero]; go_big_quiet_on
          refine wpQuiet_nil ?_
          refine wpSteps_head ?_
          go_big_quiet_want; apply quiet_value; (· (intro w' hw; have hB := (HS.out _).1 hw; have hbl := World.block_lt_of_cell? _ _ hB; go_simp; try rfl)); simp only [Act.put, List.setIfInBounds_toArray, List.set_cons_succ, List.set_cons_zero]; go_big_quiet_on
          refine wpQuiet_nil ?_
          refine wpSteps_head ?_
          go_big_quiet_want; apply quiet_value; (· (intro w' hw; have hB := (HS.out _).1 hw; have hbl := World.block_lt_of_cell? _ _ hB; go_simp; try rfl)); simp only [Act.put, List.setIfInBounds_toArray, List.set_cons_succ, List.set_cons_zero]; go_big_quiet_on
          refine wpQuiet_nil ?_
          refine wpSteps_head ?_
          go_big_quiet_want; go_big_quiet_op; go_big_quiet_on
          refine wpQuiet_nil ?_
          refine wpSteps_head ?_
          go_big_quiet_want; go_big_quiet_op; go_big_quiet_on
          refine wpQuiet_nil ?_
          refine wpSteps_head ?_
          go_big_quiet_want; go_big_quiet_op; go_big_quiet_on
          refine wpQuiet_nil ?_
          refine wpSteps_head ?_
          go_big_quiet_want; go_big_quiet_op; go_big_quiet_on
          refine wpQuiet_nil ?_
          refine wpSteps_more ?_
          go_wp2_with fail
          refine (first_any half HL.out.drew' HF.out hh).mono ?_
          rintro e w5 ⟨rfl, b5⟩
          have hb5 := (Below.refl wr.heap.size wr).drew.trans b5
          have HL5 := Lib.hid (HL.out.bel hb5)
          have HG5 := Lib.hid (HGO.out.below_r hb5)
          have HV5 := Lib.hid (own_stays HV.out (w' := w5) fun j hj => hb5.block j (own_lt HV.out j hj))
          have HC5 := Lib.hid (HBC.out.bel hb5)
          clear b5 hb5
          go_wp2_with fail
          refine ThenS.mk ((HS.out _).2 (HL5.out.box.cell 0)) ?_
          refine wpSteps_head ?_
          go_big_quiet_want; apply quiet_value; (· (intro w' hw; go_simp; try rfl)); simp only [Act.put, List.setIfInBounds_toArray, List.set_cons_succ, List.set_cons_zero]; go_big_quiet_on
          refine wpQuiet_nil ?_
          refine wpSteps_more ?_
          go_wp2_with fail
          refine (write_any ((firstG G half + k : Nat) : Int) c ac c.length cc2 HL5.out.dsk (Nat.le_trans hb HG5.out.touch.size) HGK.out HC5.out HWL.out).mono ?_
          rintro e w6 ⟨rfl, VD6, hD6, hG6⟩
          rw [HWE.out]
          rw [HWD.out] at hD6
          have HL6 := Lib.hid (HL5.out.disk hD6 hG6)
          have HG6 := Lib.hid (HG5.out.trans (GoesL.disk hG6))
          have HV6 := Lib.hid (own_touch HV5.out hG6.touch (fun b hb => HL5.out.dsk.notRow HV5.out (by decide) (by decide) (by decide) hb))
          clear hD6 hG6 HL5 HG5 HV5 HC5
          go_wp2_with fail
          refine ThenS.mk ((HS.out _).2 (HL6.out.box.cell 0)) ?_
          refine wpSteps_more ?_
          go_wp2_with fail
          refine (did_any 0 HL6.out).mono ?_
          rintro e w7 ⟨rfl, hL7, hG7, hT7⟩
          rw [HDG.out] at hL7
          rw [HDE.out]
          have HL7 := Lib.hid hL7
          have HG7 := Lib.hid (HG6.out.trans hG7)
          have HV7 := Lib.hid (own_touch HV6.out hT7 (fun j hj e => own_box_ne HV6.out HL6.out.box (by decide) (e ▸ hj)))
          clear hL7 hG7 hT7 HL6 HG6 HV6
          go_wp2_with fail
          refine ThenS.mk ((HS.out _).2 (HL7.out.box.cell 0)) ?_
          refine wpSteps_last ?_
          go_wp2_with fail
          go_roundw
          case rel =>
            refine ⟨k + 1, VD6, wr1 Dk (firstG G half + k) c, f, by go_num, ?_, by omega, by omega, ?_, HG7.out, HV7.out, good_wr1 HGK.out _ _ hfk hc64, by rw [wr1_dead _ _ HDKE.out]; exact HDB.out, by rw [wr1_len]; exact hnl, by rw [wr1_wait]; omega⟩
            · rw [HFW.out, wrAll, if_pos HLT.out, HDB.out, ← HCE.out]
              rfl
            · have h1 := HL7.out
              have h2 : ({ G with dead := false } : Lg) = G := by rw [← HGD.out]
              rw [h2] at h1
              exact h1
          case measure => simp [intOf]; omega
        · rw [hdb] at h2
          have HWE := Lib.hid h2
          have HDB := Lib.hid hdb
          have HDG := Lib.hid (show didG G 40 = { G with dead := true } by unfold didG; rw [hGd]; rfl)
          have HDE := Lib.hid (show didE G 40 = 40 by unfold didE; rw [hGd]; rfl)
          clear h2 hdb hGd
          go_upto_region 5 with (fail)
          refine wp_region_steps (fun w' => w'.cell? ⟨n, 0, none⟩ = some (.pointer (some ⟨nd, 0, none⟩))) [(true, 0), (true, 1), (true, 2), (true, 3), (true, 4), (true, 5), (true, 6), (true, 8), (true, 10), (false, 7), (true, 9), (false, 11), (false, 12), (false, 13)] 13 _ _ (by kernel_rfl) rfl (by kernel_rfl) (by kernel_rfl) rfl (fun _ _ _ _ _ h => h) (HL.out.box.drew.cell 0) ?_
          intro S HS
          simp only [pickS, List.getElem?_cons_zero, List.getElem?_cons_succ]
          refine wpSteps_head ?_
          go_big_quiet_want; go_big_quiet_op; go_big_quiet_on
          refine wpQuiet_nil ?_
          refine wpSteps_head ?_
          go_big_quiet_want; go_big_quiet_op; go_big_quiet_on
          refine wpQuiet_nil ?_
          refine wpSteps_head ?_
          go_big_quiet_want; apply quiet_value; (· (intro w' hw; have hB := (HS.out _).1 hw; have hbl := World.block_lt_of_cell? _ _ hB; go_simp; try rfl)); simp only [Act.put, List.setIfInBounds_toArray, List.set_cons_succ, List.set_cons_zero]; go_big_quiet_on
          refine wpQuiet_nil ?_
          refine wpSteps_head ?_
          go_big_quiet_want; apply quiet_value; (· (intro w' hw; have hB := (HS.out _).1 hw; have hbl := World.block_lt_of_cell? _ _ hB; go_simp; try rfl)); simp only [Act.put, List.setIfInBounds_toArray, List.set_cons_succ, List.set_cons_zero]; go_big_quiet_on
          refine wpQuiet_nil ?_
          refine wpSteps_head ?_
          go_big_quiet_want; apply quiet_value; (· (intro w' hw; have hB := (HS.out _).1 hw; have hbl := World.block_lt_of_cell? _ _ hB; go_simp; try rfl)); simp only [Act.put, List.setIfInBounds_toArray, List.set_cons_succ, List.set_cons_zero]; go_big_quiet_on
          refine wpQuiet_nil ?_
          refine wpSteps_head ?_
          go_big_quiet_want; go_big_quiet_op; go_big_quiet_on
          refine wpQuiet_nil ?_
          refine wpSteps_head ?_
          go_big_quiet_want; go_big_quiet_op; go_big_quiet_on
          refine wpQuiet_nil ?_
          refine wpSteps_head ?_
          go_big_quiet_want; go_big_quiet_op; go_big_quiet_on
          refine wpQuiet_nil ?_
          refine wpSteps_head ?_
          go_big_quiet_want; go_big_quiet_op; go_big_quiet_on
          refine wpQuiet_nil ?_
          refine wpSteps_more ?_
          go_wp2_with fail
          refine (first_any half HL.out.drew' HF.out hh).mono ?_
          rintro e w5 ⟨rfl, b5⟩
          have hb5 := (Below.refl wr.heap.size wr).drew.trans b5
          have HL5 := Lib.hid (HL.out.bel hb5)
          have HG5 := Lib.hid (HGO.out.below_r hb5)
          have HV5 := Lib.hid (own_stays HV.out (w' := w5) fun j hj => hb5.block j (own_lt HV.out j hj))
          have HC5 := Lib.hid (HBC.out.bel hb5)
          clear b5 hb5
          go_wp2_with fail
          refine ThenS.mk ((HS.out _).2 (HL5.out.box.cell 0)) ?_
          refine wpSteps_head ?_
          go_big_quiet_want; apply quiet_value; (· (intro w' hw; go_simp; try rfl)); simp only [Act.put, List.setIfInBounds_toArray, List.set_cons_succ, List.set_cons_zero]; go_big_quiet_on
          refine wpQuiet_nil ?_
          refine wpSteps_more ?_
          go_wp2_with fail
          refine (write_any ((firstG G half + k : Nat) : Int) c ac c.length cc2 HL5.out.dsk (Nat.le_trans hb HG5.out.touch.size) HGK.out HC5.out HWL.out).mono ?_
          rintro e w6 ⟨rfl, VD6, hD6, hG6⟩
          rw [HWE.out]
          rw [HWD.out] at hD6
          have HL6 := Lib.hid (HL5.out.disk hD6 hG6)
          have HG6 := Lib.hid (HG5.out.trans (GoesL.disk hG6))
          have HV6 := Lib.hid (own_touch HV5.out hG6.touch (fun b hb => HL5.out.dsk.notRow HV5.out (by decide) (by decide) (by decide) hb))
          clear hD6 hG6 HL5 HG5 HV5 HC5
          go_wp2_with fail
          refine ThenS.mk ((HS.out _).2 (HL6.out.box.cell 0)) ?_
          refine wpSteps_more ?_
          go_wp2_with fail
          refine (did_any 40 HL6.out).mono ?_
          rintro e w7 ⟨rfl, hL7, hG7, hT7⟩
          rw [HDG.out] at hL7
          rw [HDE.out]
          have HL7 := Lib.hid hL7
          have HG7 := Lib.hid (HG6.out.trans hG7)
          have HV7 := Lib.hid (own_touch HV6.out hT7 (fun j hj e => own_box_ne HV6.out HL6.out.box (by decide) (e ▸ hj)))
          clear hL7 hG7 hT7 HL6 HG6 HV6
          go_wp2_with fail
          refine ThenS.mk ((HS.out _).2 (HL7.out.box.cell 0)) ?_
          refine wpSteps_last ?_
          go_wp2_with fail
          go_ret
          have HEND : wrAll (firstG G half) b (G.size + 1) K0 D = (wr1 Dk (firstG G half + k) c, false) := by
            rw [HFW.out, wrAll, if_pos HLT.out, HDB.out, ← HCE.out]
            rfl
          exact ⟨VD6, by rw [HEND]; rfl, by rw [HEND]; exact HL7.out, HG7.out, HV7.out⟩
    · have hlt2 : ¬ (k : Int) * 64 < (b.length : Int) := by omega
      have HEND := Lib.hid (show wrAll (firstG G half) b (G.size + 1) K0 D = (Dk, true) by
        rw [HFW.out]
        cases f with
        | zero => rfl
        | succ f => unfold wrAll; rw [if_neg hlt])
      clear hlt
      go_wp2_with fail
      go_ret
      refine ⟨VDk, by rw [HEND.out]; rfl, ?_, HGO.out, HV.out⟩
      rw [HEND.out]
      have h1 := HL.out
      have h2 : ({ G with dead := !true } : Lg) = G := by
        show ({ G with dead := false } : Lg) = G
        rw [← HGD.out]
      show Ldg _ base n nd V VDk Dk { G with dead := !true }
      rw [h2]
      exact h1
end Go.Proofs.Ytdiboicllolcnaa
