/- The walk of PlatterWhole. Conditions: the script lies in memory. -/
import Derived.Test.YtpgoacemjpobjaaQn
namespace Go.Proofs.Ytpgoacemjpobjaa
open Go Go.RowKit
set_option linter.unusedVariables false
set_option linter.unusedSimpArgs false

theorem torn_whole (s x : Sec) (hs : s.length = 64) (hx : x.length = 64) : torn s x 64 = x := by
  unfold torn; rw [List.take_of_length_le (by omega), List.drop_of_length_le (by omega), List.append_nil]
theorem torn_none (s x : Sec) : torn s x 0 = s := by simp [torn]
theorem whole_1 {D : Dk} (h : Good D) (k : Nat) (hk : k < D.wait.length) : crashL D k 64 = crashL D (k + 1 : Int) 0 := by
  have e1 : keepN D (k : Int) = k := by unfold keepN; omega
  have e2 : keepN D ((k : Int) + 1) = k + 1 := by unfold keepN; omega
  have t1 : tearN 64 = 64 := rfl
  have t2 : tearN 0 = 0 := rfl
  obtain ⟨x, hx⟩ : ∃ x, D.wait[k]? = some x := ⟨_, List.getElem?_eq_getElem hk⟩
  have hx64 := h.fullw x (List.mem_of_getElem? hx)
  have hxl := h.lies x (List.mem_of_getElem? hx)
  have hl := laid_len D.firm (D.wait.take k)
  rw [← h.same, ← hl] at hxl
  have hf := laid_full (l := D.firm) (ws := D.wait.take k) h.fullf (h.fullw.take _)
  have hL : crashL D k 64 = laid D.firm (D.wait.take (k + 1)) := by
    unfold crashL
    rw [e1, hx, t1, laid_take _ _ _ _ hx]
    simp only []
    rw [torn_whole _ _ (hf _ (by rw [List.getD_eq_getElem?_getD, List.getElem?_eq_getElem hxl]; exact List.getElem_mem hxl)) hx64]
  rw [hL]
  unfold crashL
  rw [e2, t2]
  split
  · rename_i y hy
    rw [torn_none, List.getD_eq_getElem?_getD]
    cases hg : (laid D.firm (D.wait.take (k + 1)))[y.1]? with
    | none => rw [List.set_eq_of_length_le (List.getElem?_eq_none_iff.1 hg)]
    | some s =>
      obtain ⟨h1, h2⟩ := List.getElem?_eq_some_iff.1 hg
      simp only [Option.getD_some]
      rw [← h2, List.set_getElem_self]
  · rfl
theorem whole_2 (D : Dk) (a b c d : Int) : crashL (crashD D a b) c d = crashL D a b := by
  have h3 : ∀ (l : List Sec) (c d : Int), crashL { now := l, firm := l, wait := [], armed := 0, dead := false } c d = l := by intro l c d; unfold crashL; simp [laid]
  exact h3 _ c d

set_option maxHeartbeats 8000000 in
set_option maxRecDepth 100000 in
theorem whole_core (W : World) (a : Option Addr) (len cap : Nat) (xs : List In4) (hO : OpsAt W a len xs) (hm : len ≤ maxLen) (keep tear : Int) :
    Calls Try.prog 7 #[.slice a len cap, .int .i64 keep, .int .i64 tear] W fun e W' => e = .returned (.bool true) ∧ Below W.heap.size W W' := by
  unfold maxLen at hm
  by_cases h2 : 200 < len
  · have h2' : (200 : Int) < (len : Int) := by omega
    clear hO h2
    go_enter Try.func7, Try.ntmps7
    go_wp2_with fail
    refine (alive_any W).mono ?_
    rintro e w2 ⟨rfl, b2⟩
    go_wp2
    go_ret
    exact ⟨rfl, b2⟩
  have h2' : ¬ (200 : Int) < (len : Int) := by omega
  by_cases h3 : keep < 0
  · clear hO h2
    go_enter Try.func7, Try.ntmps7
    go_wp2_with fail
    refine (alive_any W).mono ?_
    rintro e w2 ⟨rfl, b2⟩
    go_wp2
    go_ret
    exact ⟨rfl, b2⟩
  by_cases h4 : 1000 < keep
  · clear hO h2
    go_enter Try.func7, Try.ntmps7
    go_wp2_with fail
    refine (alive_any W).mono ?_
    rintro e w2 ⟨rfl, b2⟩
    go_wp2
    go_ret
    exact ⟨rfl, b2⟩
  · obtain ⟨k0, rfl⟩ := Int.eq_ofNat_of_zero_le (Int.not_lt.1 h3)
    have C1 := Lib.hid (plays_any (w := W) 8 (by omega) a len cap xs hO (by omega))
    have HGP := Lib.hid (good_play (D := newD 8) xs (fun x hx => (hO.2 x hx).2) (good_new 8))
    have HWP : Hid ((playD xs (newD 8)).wait.length ≤ 200) := by
      have h1 := wait_play (D := newD 8) xs
      have h2 := hO.len
      have h3 : (newD 8).wait.length = 0 := rfl
      show (playD xs (newD 8)).wait.length ≤ 200
      omega
    have HLP : Hid ((playD xs (newD 8)).firm.length = 8) := by
      show (playD xs (newD 8)).firm.length = 8
      rw [firm_play xs (fun x hx => (hO.2 x hx).2) (good_new 8)]; rfl
    clear hO h2
    go_enter Try.func7, Try.ntmps7
    go_wp2_with fail
    refine C1.out.mono ?_
    rintro e w1 ⟨n, V, af, aw, cf, cw, rfl, hD, hR, b1⟩
    unfold rdv
    clear C1
    generalize playD xs (newD 8) = D at HGP HWP HLP hD hR ⊢
    have bA := (Below.refl w1.heap.size w1).alloc (Nat.le_refl _) (.cells #[.slice af D.firm.length cf, .slice aw D.wait.length cw, .int .i64 D.armed, .bool D.dead] 28)
    have HD2 := Lib.hid (hD.bel bA)
    have HR2 := Lib.hid (hR.bel bA)
    have HX2 := Lib.hid (Box.new w1 28 #[.slice af D.firm.length cf, .slice aw D.wait.length cw, .int .i64 D.armed, .bool D.dead])
    have B2 := Lib.hid (b1.trans (bA.mono b1.size))
    have HWL := Lib.hid (show D.wait.length ≤ 1000000 from by have := HWP.out; omega)
    clear hD hR b1 bA
    by_cases hkw : k0 < D.wait.length
    rotate_left
    · have hkw' : (D.wait.length : Int) ≤ (k0 : Int) := by omega
      go_wp2_with fail
      generalize w1.alloc (.cells #[.slice af D.firm.length cf, .slice aw D.wait.length cw, .int .i64 D.armed, .bool D.dead] 28) = w2 at HD2 HR2 HX2 B2 ⊢
      generalize w1.heap.size = t8 at HX2 ⊢
      refine (alive_any w2).mono ?_
      rintro e w3 ⟨rfl, b3⟩
      have B3 := Lib.hid (B2.out.trans (b3.mono B2.out.size))
      clear b3
      go_wp2
      go_ret
      exact ⟨rfl, B3.out⟩
    have hkw' : ¬ (D.wait.length : Int) ≤ (k0 : Int) := by omega
    have HK := Lib.hid hkw
    go_wp2_with fail
    generalize w1.alloc (.cells #[.slice af D.firm.length cf, .slice aw D.wait.length cw, .int .i64 D.armed, .bool D.dead] 28) = w2 at HD2 HR2 HX2 B2 ⊢
    generalize w1.heap.size = t8 at HX2 ⊢
    refine (crash_any (k0 : Int) 64 HD2.out B2.out.size HGP.out HWL.out).mono ?_
    rintro e w3 ⟨nA, VA, rfl, hDA, b3⟩
    have HD3 := Lib.hid (HD2.out.bel b3)
    have B3 := Lib.hid (B2.out.trans (b3.mono B2.out.size))
    have HA3 := Lib.hid hDA
    clear hDA b3 HD2
    go_wp2_with fail
    refine (crash_any ((k0 : Int) + 1) 0 HD3.out B3.out.size HGP.out HWL.out).mono ?_
    rintro e w4 ⟨nB, VB, rfl, hDB, b4⟩
    have HD4 := Lib.hid (HD3.out.bel b4)
    have HA4 := Lib.hid (HA3.out.bel b4)
    have B4 := Lib.hid (B3.out.trans (b4.mono B3.out.size))
    have HB4 := Lib.hid hDB
    clear hDB b4 HD3 HA3
    go_wp2_with fail
    refine (crash_any (k0 : Int) tear HD4.out B4.out.size HGP.out HWL.out).mono ?_
    rintro e w5 ⟨nC, VC, rfl, hDC, b5⟩
    have HA5 := Lib.hid (HA4.out.bel b5)
    have HB5 := Lib.hid (HB4.out.bel b5)
    have B5 := Lib.hid (B4.out.trans (b5.mono B4.out.size))
    have HC5 := Lib.hid hDC
    have HSZ5 := Lib.hid (show w4.heap.size ≤ w5.heap.size from b5.size)
    clear hDC b5 HD4 HA4 HB4
    have GA := Lib.hid (good_crash HGP.out (k0 : Int) 64)
    have GB := Lib.hid (good_crash HGP.out ((k0 : Int) + 1) 0)
    have GC := Lib.hid (good_crash HGP.out (k0 : Int) tear)
    have GE := Lib.hid (good_crash (good_crash HGP.out (k0 : Int) tear) tear (k0 : Int))
    obtain ⟨L1, hL1⟩ : ∃ L, L = crashL D (k0 : Int) 64 := ⟨_, rfl⟩
    obtain ⟨L2, hL2⟩ : ∃ L, L = crashL D (k0 : Int) tear := ⟨_, rfl⟩
    have N1 : Hid ((crashD D (k0 : Int) 64).now = L1 ∧ (crashD D ((k0 : Int) + 1) 0).now = L1 ∧ (crashD D (k0 : Int) tear).now = L2 ∧ (crashD (crashD D (k0 : Int) tear) tear (k0 : Int)).now = L2 ∧ L1.length = 8 ∧ L2.length = 8) := by
      refine ⟨hL1.symm, ?_, hL2.symm, ?_, ?_, ?_⟩
      · show crashL D ((k0 : Int) + 1) 0 = L1
        rw [hL1, whole_1 HGP.out k0 hkw]
      · show crashL (crashD D (k0 : Int) tear) tear (k0 : Int) = L2
        rw [whole_2, hL2]
      · rw [hL1, (crashL_full HGP.out _ _).2, HLP.out]
      · rw [hL2, (crashL_full HGP.out _ _).2, HLP.out]
    clear hL1 hL2 hkw
    go_wp2_with fail
    refine (crash_any tear (k0 : Int) HC5.out HSZ5.out GC.out (by show 0 ≤ 1000000; omega)).mono ?_
    rintro e w6 ⟨nE, VE, rfl, hDE, b6⟩
    have HA6 := Lib.hid (HA5.out.bel b6)
    have HB6 := Lib.hid (HB5.out.bel b6)
    have HC6 := Lib.hid (HC5.out.bel b6)
    have B6 := Lib.hid (B5.out.trans (b6.mono B5.out.size))
    have HE6 := Lib.hid hDE
    clear hDE b6 HA5 HB5 HC5
    have S1 := sectors_any HA6.out GA.out rfl
    rw [N1.out.1] at S1
    have S1 := Lib.hid S1
    go_wp2_with fail
    refine S1.out.mono ?_
    rintro e w7 ⟨a1, c1, rfl, own7, b7⟩
    have HB7 := Lib.hid (HB6.out.bel b7)
    have HC7 := Lib.hid (HC6.out.bel b7)
    have HE7 := Lib.hid (HE6.out.bel b7)
    have B7 := Lib.hid (B6.out.trans (b7.mono B6.out.size))
    have O1 := Lib.hid own7
    clear own7 b7 S1 HA6 HB6 HC6 HE6
    have S1 := sectors_any HB7.out GB.out rfl
    rw [N1.out.2.1] at S1
    have S1 := Lib.hid S1
    go_wp2_with fail
    refine S1.out.mono ?_
    rintro e w8 ⟨a2, c2, rfl, own8, b8⟩
    have HC8 := Lib.hid (HC7.out.bel b8)
    have HE8 := Lib.hid (HE7.out.bel b8)
    have B8 := Lib.hid (B7.out.trans (b8.mono B7.out.size))
    have O18 := Lib.hid (own_stays O1.out (fun k hk => b8.block k (own_lt O1.out k hk)))
    have O2 := Lib.hid own8
    clear own8 b8 S1 HB7 HC7 HE7 O1
    have S1 := sectors_any HC8.out GC.out rfl
    rw [N1.out.2.2.1] at S1
    have S1 := Lib.hid S1
    go_wp2_with fail
    refine S1.out.mono ?_
    rintro e w9 ⟨a3, c3, rfl, own9, b9⟩
    have HE9 := Lib.hid (HE8.out.bel b9)
    have B9 := Lib.hid (B8.out.trans (b9.mono B8.out.size))
    have O19 := Lib.hid (own_stays O18.out (fun k hk => b9.block k (own_lt O18.out k hk)))
    have O29 := Lib.hid (own_stays O2.out (fun k hk => b9.block k (own_lt O2.out k hk)))
    have O3 := Lib.hid own9
    clear own9 b9 S1 HC8 HE8 O18 O2
    have S1 := sectors_any HE9.out GE.out rfl
    rw [N1.out.2.2.2.1] at S1
    have S1 := Lib.hid S1
    go_wp2_with fail
    refine S1.out.mono ?_
    rintro e wA ⟨a4, c4, rfl, ownA, bA⟩
    have BA := Lib.hid (B9.out.trans (bA.mono B9.out.size))
    have O1A := Lib.hid (own_stays O19.out (fun k hk => bA.block k (own_lt O19.out k hk)))
    have O2A := Lib.hid (own_stays O29.out (fun k hk => bA.block k (own_lt O29.out k hk)))
    have O3A := Lib.hid (own_stays O3.out (fun k hk => bA.block k (own_lt O3.out k hk)))
    have O4A := Lib.hid ownA
    clear ownA bA S1 HE9 O19 O29 O3 GA GB GC GE
    have h18 := N1.out.2.2.2.2.1
    have h28 := N1.out.2.2.2.2.2
    go_wp2_with fail
    go_loopw [87] (fun iv wr => ∃ k : Nat, k ≤ L1.length ∧ iv = .int .i64 k ∧ Below wA.heap.size wA wr) (fun iv _ => L1.length - (intOf iv).toNat)
    case atStart => exact ⟨0, Nat.zero_le _, (by first | rfl | simp), Below.refl _ _⟩
    case round =>
      obtain ⟨k, hk, rfl, hB⟩ := hrel
      have HB := Lib.hid hB
      clear hB
      by_cases hlt : k < L1.length
      · obtain ⟨s, hs⟩ : ∃ s, L1[k]? = some s := ⟨_, List.getElem?_eq_getElem hlt⟩
        obtain ⟨t, ht⟩ : ∃ t, L2[k]? = some t := ⟨_, List.getElem?_eq_getElem (by omega)⟩
        obtain ⟨g1, rfl, hg1, _, q1⟩ := SeeF.of_all O1A.out k s hs
        obtain ⟨g2, rfl, hg2, _, q2⟩ := SeeF.of_all O2A.out k s hs
        obtain ⟨g3, rfl, hg3, _, q3⟩ := SeeF.of_all O3A.out k t ht
        obtain ⟨g4, rfl, hg4, _, q4⟩ := SeeF.of_all O4A.out k t ht
        obtain ⟨zs, hzs⟩ : ∃ z : ByteArray, z = ⟨s.toArray⟩ := ⟨_, rfl⟩
        obtain ⟨zt, hzt⟩ : ∃ z : ByteArray, z = ⟨t.toArray⟩ := ⟨_, rfl⟩
        unfold st at q1 q2 q3 q4
        rw [← hzs] at q1 q2
        rw [← hzt] at q3 q4
        have Q1 : Hid (∀ w, Below wr.heap.size wr w → w.cell? ⟨g1, k, none⟩ = some (.string zs)) := fun w hw => by rw [(HB.out.trans (hw.mono HB.out.size)).cell (p := ⟨g1, k, none⟩) hg1]; exact q1
        have Q2 : Hid (∀ w, Below wr.heap.size wr w → w.cell? ⟨g2, k, none⟩ = some (.string zs)) := fun w hw => by rw [(HB.out.trans (hw.mono HB.out.size)).cell (p := ⟨g2, k, none⟩) hg2]; exact q2
        have Q3 : Hid (∀ w, Below wr.heap.size wr w → w.cell? ⟨g3, k, none⟩ = some (.string zt)) := fun w hw => by rw [(HB.out.trans (hw.mono HB.out.size)).cell (p := ⟨g3, k, none⟩) hg3]; exact q3
        have Q4 : Hid (∀ w, Below wr.heap.size wr w → w.cell? ⟨g4, k, none⟩ = some (.string zt)) := fun w hw => by rw [(HB.out.trans (hw.mono HB.out.size)).cell (p := ⟨g4, k, none⟩) hg4]; exact q4
        have hki : (k : Int) < (L1.length : Int) := by omega
        have hki2 : (k : Int) < (L2.length : Int) := by omega
        clear hs ht q1 q2 q3 q4 hzs hzt O1A O2A O3A O4A
        go_wp2_with fail
        refine wp_region_below (B := wr.heap.size) (w0 := wr) (by kernel_rfl) (by kernel_rfl) (Below.refl _ _) ?_
        go_big_quiet_want; go_big_quiet_op; go_big_quiet_on
        go_big_quiet_want; go_big_quiet_op; go_big_quiet_on
        go_big_quiet_want; apply quiet_value; (· (intro w hw; go_simp; try rfl)); simp only [Act.put, List.setIfInBounds_toArray, List.set_cons_succ, List.set_cons_zero]; go_big_quiet_on
        go_big_quiet_want; apply quiet_value; (· (intro w hw; have q := Q1.out w hw; go_simp; try rfl)); simp only [Act.put, List.setIfInBounds_toArray, List.set_cons_succ, List.set_cons_zero]; go_big_quiet_on
        go_big_quiet_want; go_big_quiet_op; go_big_quiet_on
        go_big_quiet_want; go_big_quiet_op; go_big_quiet_on
        go_big_quiet_want; apply quiet_value; (· (intro w hw; go_simp; try rfl)); simp only [Act.put, List.setIfInBounds_toArray, List.set_cons_succ, List.set_cons_zero]; go_big_quiet_on
        go_big_quiet_want; apply quiet_value; (· (intro w hw; have q := Q2.out w hw; go_simp; try rfl)); simp only [Act.put, List.setIfInBounds_toArray, List.set_cons_succ, List.set_cons_zero]; go_big_quiet_on
        go_big_quiet_want; apply quiet_value (v := .bool false); (· (intro w hw; go_simp; try rfl)); simp only [Act.put, List.setIfInBounds_toArray, List.set_cons_succ, List.set_cons_zero]; go_big_quiet_on
        go_big_quiet_want; go_big_quiet_op; go_big_quiet_on
        go_big_quiet_want; go_big_quiet_op; go_big_quiet_on
        go_big_quiet_want; go_big_quiet_op; go_big_quiet_on
        go_big_quiet_want; apply quiet_value; (· (intro w hw; go_simp; try rfl)); simp only [Act.put, List.setIfInBounds_toArray, List.set_cons_succ, List.set_cons_zero]; go_big_quiet_on
        go_big_quiet_want; apply quiet_value; (· (intro w hw; have q := Q3.out w hw; go_simp; try rfl)); simp only [Act.put, List.setIfInBounds_toArray, List.set_cons_succ, List.set_cons_zero]; go_big_quiet_on
        go_big_quiet_want; go_big_quiet_op; go_big_quiet_on
        go_big_quiet_want; go_big_quiet_op; go_big_quiet_on
        go_big_quiet_want; apply quiet_value; (· (intro w hw; go_simp; try rfl)); simp only [Act.put, List.setIfInBounds_toArray, List.set_cons_succ, List.set_cons_zero]; go_big_quiet_on
        go_big_quiet_want; apply quiet_value; (· (intro w hw; have q := Q4.out w hw; go_simp; try rfl)); simp only [Act.put, List.setIfInBounds_toArray, List.set_cons_succ, List.set_cons_zero]; go_big_quiet_on
        go_big_quiet_want; apply quiet_value (v := .bool false); (· (intro w hw; go_simp; try rfl)); simp only [Act.put, List.setIfInBounds_toArray, List.set_cons_succ, List.set_cons_zero]; go_big_quiet_on
        go_big_quiet_want; apply quiet_value; (· (intro w hw; go_simp; try rfl)); simp only [Act.put, List.setIfInBounds_toArray, List.set_cons_succ, List.set_cons_zero]; go_big_quiet_on
        refine wpQuiet_nil ?_
        intro w7 b7
        have HB7 := Lib.hid (HB.out.trans (b7.mono HB.out.size))
        clear b7
        go_wp2
        go_roundw
        case rel => exact ⟨k + 1, by omega, by go_num, HB7.out⟩
        case measure => simp [intOf]; omega
      · obtain rfl : k = L1.length := by omega
        have B7 := Lib.hid (BA.out.trans (HB.out.mono BA.out.size))
        go_wp2_with fail
        refine (alive_any wr).mono ?_
        rintro e w8 ⟨rfl, b8⟩
        have B8 := Lib.hid (B7.out.trans (b8.mono B7.out.size))
        clear b8
        go_wp2
        go_ret
        exact ⟨rfl, B8.out⟩
theorem platterWhole_walk {H : Type} {enc : TypeId × Value → H} {base : Nat} {p0 : List MemPlace} (W : World) (v0 : Value) (d0 : DataW H) (hv : Value.okWide Try.prog W .any base 22 v0) (h : DataW.Trod enc Try.prog W 0 (fun _ => true) true 22 v0 d0 p0) (_b : ∀ n ∈ d0.weights Try.prog 22, n ≤ 140737488351232)
    (a1 : Int) (_w1 : (Lit.int .i64 a1).wf = true) (a2 : Int) (_w2 : (Lit.int .i64 a2).wf = true) :
    Calls Try.prog 7 #[v0, .int .i64 a1, .int .i64 a2] W fun e W' => e = .returned (.bool true) ∧ Below W.heap.size W W' := by
  obtain ⟨a, len, cap, xs, rfl, hP, h1, h2⟩ := open_ops hv h
  exact whole_core W a len cap xs hP (by omega) a1 a2
end Go.Proofs.Ytpgoacemjpobjaa
