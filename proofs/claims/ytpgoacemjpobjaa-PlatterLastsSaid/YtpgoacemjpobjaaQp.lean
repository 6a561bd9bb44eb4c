/- The walk of PlatterReads. Conditions: the script lies in memory. -/
import Derived.Test.YtpgoacemjpobjaaQn
namespace Go.Proofs.Ytpgoacemjpobjaa
open Go Go.RowKit
set_option linter.unusedVariables false
set_option linter.unusedSimpArgs false

/-- a write on a disk that lives, and is not armed. -/
theorem wr_plain {D : Dk} (hd : D.dead = false) (k : Int) (b : Sec) : (wrD (armD D 0) k b).dead = false ∧
    ((wrE (armD D 0) k b.length = 41 ∧ (wrD (armD D 0) k b).now = D.now ∧ (k < 0 ∨ (D.now.length : Int) ≤ k ∨ 64 < b.length)) ∨
     (wrE (armD D 0) k b.length = 0 ∧ ∃ i : Nat, k = i ∧ i < D.now.length ∧ b.length ≤ 64 ∧ (wrD (armD D 0) k b).now = D.now.set i (pad b))) := by
  have hm : mayE (armD D 0) k = if k < 0 ∨ (D.now.length : Int) ≤ k then 41 else 0 := by unfold mayE armD; rw [if_neg (by rw [hd]; decide)]
  have hb : diesB (armD D 0) = false := by unfold diesB armD; simp
  have hdi : ∀ X : Dk, X.armed = 0 → diesD X = X := fun X hx => by unfold diesD; rw [if_pos hx]
  by_cases h1 : k < 0 ∨ (D.now.length : Int) ≤ k
  · have h41 : mayE (armD D 0) k = 41 := by rw [hm, if_pos h1]
    have hw : wrD (armD D 0) k b = armD D 0 := by unfold wrD; rw [if_pos (.inl (by rw [h41]; decide))]
    refine ⟨by rw [hw]; exact hd, .inl ⟨by unfold wrE; rw [h41]; rfl, by rw [hw]; rfl, ?_⟩⟩
    rcases h1 with h | h
    · exact .inl h
    · exact .inr (.inl h)
  · have h0 : mayE (armD D 0) k = 0 := by rw [hm, if_neg h1]
    by_cases h2 : 64 < b.length
    · have hw : wrD (armD D 0) k b = armD D 0 := by unfold wrD; rw [if_pos (.inr h2)]
      exact ⟨by rw [hw]; exact hd, .inl ⟨by unfold wrE; rw [if_neg (fun h => h h0), if_pos h2], by rw [hw]; rfl, .inr (.inr h2)⟩⟩
    · obtain ⟨i, rfl⟩ := Int.eq_ofNat_of_zero_le (show 0 ≤ k by omega)
      have hw : wrD (armD D 0) i b = putD (armD D 0) i (pad b) := by
        unfold wrD; rw [if_neg (by rintro (h | h); exact h h0; exact h2 h), Int.toNat_natCast, hdi]; rfl
      exact ⟨by rw [hw]; exact hd, .inr ⟨by unfold wrE; rw [if_neg (fun h => h h0), if_neg h2, hb]; rfl, i, rfl, by omega, by omega, by rw [hw]; rfl⟩⟩
theorem mkc (c : Nat) (hc : c ≤ 64) (w : World) : (Instr.makeSlice 36 (.int .i64 (c : Int)) (.int .i64 (c : Int))).run Try.prog w = .ok (.slice (some ⟨w.heap.size, 0, none⟩) c c) (w.alloc (.cells (bc (List.replicate c 0)).toArray 5)) := by
  have h := run_make_row' (P := Try.prog) 36 5 (.int .u8 0) 1 Try.underlying36 (by kernel_rfl) rfl .i64 .i64 c (by omega) (by omega) w
  rw [h]
  congr 3
  apply Array.ext
  · simp [madeCells, bc]
  · intro i h1 h2
    simp [madeCells, bc, Nat.mod_one]
theorem wpList_mk {w : World} {ops : Array Oper} {rest : List Oper} {o : Oper} {a : Act} {Q : Exit → Act → World → Prop} (hgd : Region.wanted o (yielded ops a.tmps) = true) (t : TypeId) (l c : Operand) (ho : o.op = .makeSlice t l c) (v lv cv : Value) (w' : World) (hl : a.eval l = lv) (hc : a.eval c = cv)
    (hr : (Instr.makeSlice t lv cv).run Try.prog w = .ok v w') (h : wpList Try.prog ops Q rest (a.put o.dst v) w') : wpList Try.prog ops Q (o :: rest) a w := by
  refine BigFrame.wpList_want hgd fun K hK => ?_
  unfold Oper.wp execOp
  simp only [ho, hl, hc, Sem.run_bind, hr, Result.andThen_ok, Sem.run_pure]
  exact hK _ _ h
theorem bys_newc (w : World) (s : Sec) (hs : s.length ≤ 1000) : Bys (w.alloc (.cells (bc s).toArray 5)) (some ⟨w.heap.size, 0, none⟩) s.length s := bys_lit w s (0, 0) hs
theorem ba_drop' (s : Sec) (T : Nat) (h : s.length = 64) : (⟨s.toArray⟩ : ByteArray).extract T 64 = ⟨(s.drop T).toArray⟩ := ba_drop s T h
theorem pad_take (b : Sec) : (pad b).take b.length = b := by simp [pad]
theorem pad_drop (b : Sec) : (pad b).drop b.length = List.replicate (64 - b.length) 0 := by simp [pad]

set_option maxHeartbeats 8000000 in
set_option maxRecDepth 100000 in
theorem reads_core (W : World) (a : Option Addr) (len cap : Nat) (xs : List In4) (hO : OpsAt W a len xs) (hm : len ≤ maxLen) (a1 : Int) (ab : Option Addr) (lb cb : Nat) (b : Sec) (hB : Bys W ab lb b) :
    Calls Try.prog 8 #[.slice a len cap, .int .i64 a1, .slice ab lb cb] W fun e W' => e = .returned (.bool true) ∧ Below W.heap.size W W' := by
  have hlb := hB.2.1
  unfold maxLen at hm hlb
  have HBB := Lib.hid hB
  by_cases h2 : 200 < len
  · have h2' : (200 : Int) < (len : Int) := by omega
    clear hO h2 hB
    go_enter Try.func8, Try.ntmps8
    go_wp2_with fail
    refine (alive_any W).mono ?_
    rintro e w2 ⟨rfl, b2⟩
    go_wp2
    go_ret
    exact ⟨rfl, b2⟩
  · have h2' : ¬ (200 : Int) < (len : Int) := by omega
    clear hB
    have C1 := Lib.hid (plays_any (w := W) 8 (by omega) a len cap xs hO (by omega))
    have HGP := Lib.hid (good_play (D := newD 8) xs (fun x hx => (hO.2 x hx).2) (good_new 8))
    have HWP : Hid ((playD xs (newD 8)).wait.length ≤ 200) := by
      have h1 := wait_play (D := newD 8) xs
      have h2 := hO.len
      have h3 : (newD 8).wait.length = 0 := rfl
      show (playD xs (newD 8)).wait.length ≤ 200
      omega
    have HLP : Hid ((playD xs (newD 8)).firm.length = 8) := by
      show (playD xs (newD 8)).firm.length = 8
      rw [firm_play xs (fun x hx => (hO.2 x hx).2) (good_new 8)]; rfl
    clear hO h2
    go_enter Try.func8, Try.ntmps8
    go_wp2_with fail
    refine C1.out.mono ?_
    rintro e w1 ⟨n, V, af, aw, cf, cw, rfl, hD, hR, b1⟩
    unfold rdv
    clear C1
    generalize playD xs (newD 8) = D at HGP HWP HLP hD hR ⊢
    have bA := (Below.refl w1.heap.size w1).alloc (Nat.le_refl _) (.cells #[.slice af D.firm.length cf, .slice aw D.wait.length cw, .int .i64 D.armed, .bool D.dead] 28)
    have HD2 := Lib.hid (hD.bel bA)
    have HR2 := Lib.hid (hR.bel bA)
    have HX2 := Lib.hid (Box.new w1 28 #[.slice af D.firm.length cf, .slice aw D.wait.length cw, .int .i64 D.armed, .bool D.dead])
    have B2 := Lib.hid (b1.trans (bA.mono b1.size))
    have HWL := Lib.hid (show D.wait.length ≤ 1000000 from by have := HWP.out; omega)
    clear hD hR b1 bA
    cases hd : D.dead
    rotate_left
    · simp only [hd] at HD2 HR2 HX2 B2 ⊢
      go_wp2_with fail
      generalize w1.alloc (.cells #[.slice af D.firm.length cf, .slice aw D.wait.length cw, .int .i64 D.armed, .bool true] 28) = w2 at HD2 HR2 HX2 B2 ⊢
      generalize w1.heap.size = t8 at HX2 ⊢
      refine (alive_any w2).mono ?_
      rintro e w3 ⟨rfl, b3⟩
      have B3 := Lib.hid (B2.out.trans (b3.mono B2.out.size))
      clear b3
      go_wp2
      go_ret
      exact ⟨rfl, B3.out⟩
    simp only [hd] at HD2 HR2 HX2 B2 ⊢
    have HDD := Lib.hid hd
    have HSM := Lib.hid HGP.out.same
    go_wp2_with fail
    generalize w1.alloc (.cells #[.slice af D.firm.length cf, .slice aw D.wait.length cw, .int .i64 D.armed, .bool false] 28) = w2 at HD2 HR2 HX2 B2 ⊢
    generalize w1.heap.size = t8 at HX2 ⊢
    have S1 := Lib.hid (sectors_any HD2.out HGP.out HDD.out)
    refine S1.out.mono ?_
    rintro e w3 ⟨aw1, c1, rfl, own3, b3⟩
    have HD3 := Lib.hid (HD2.out.bel b3)
    have B3 := Lib.hid (B2.out.trans (b3.mono B2.out.size))
    have O3 := Lib.hid own3
    have HOF := Lib.hid HD2.out.of_lt
    clear own3 b3 S1 HR2 HX2
    go_wp2_with fail
    refine (arm_any 0 HD3.out).mono ?_
    rintro e w4 ⟨rfl, hD4, hG4⟩
    have HD4 := Lib.hid hD4
    have O4 := Lib.hid (own_touch O3.out hG4.touch (fun k hk ho => by have := own_ge O3.out k hk; have := HOF.out k ho; omega))
    have B4 := Lib.hid (hG4.below B3.out (Nat.le_refl _) HD3.out.of_ge)
    have GA : Hid (Good (armD D 0)) := ⟨HGP.out.fulln, HGP.out.fullf, HGP.out.fullw, HGP.out.same, HGP.out.many, HGP.out.lies, ⟨by simp [armD], by simp [armD]⟩, HGP.out.is⟩
    clear hD4 hG4 O3
    go_wp2_with fail
    refine (write_any a1 b ab lb cb HD4.out B4.out.size GA.out (HBB.out.bel B4.out) HWL.out).mono ?_
    rintro e w5 ⟨rfl, V5, hD5, hG5⟩
    have HD5 := Lib.hid hD5
    have O5 := Lib.hid (own_touch O4.out hG5.touch (fun k hk ho => by have := own_ge O4.out k hk; have := HOF.out k ho; omega))
    have B5 := Lib.hid (hG5.below B4.out (Nat.le_refl _) HD4.out.of_ge)
    have G2 := Lib.hid (good_wr GA.out a1 b)
    obtain ⟨hd2, hor⟩ := wr_plain HDD.out a1 b
    have hbl := HBB.out.1
    rw [hbl] at hor
    have S2 := Lib.hid (sectors_any HD5.out G2.out hd2)
    have H8 := Lib.hid (show D.now.length = 8 by rw [← HSM.out]; exact HLP.out)
    have hmany := HGP.out.many
    clear hD5 hG5 O4 HD4 HD3 HD2
    rcases hor with ⟨hE, hN, hc⟩ | ⟨hE, i, hi, hil, hb64, hN⟩
    · rw [hE]
      rw [hN] at S2
      clear hE hN
      go_wp2_with fail
      refine S2.out.mono ?_
      rintro e w6 ⟨aw2, c2, rfl, own6, b6⟩
      have B6 := Lib.hid (B5.out.trans (b6.mono B5.out.size))
      have O1 := Lib.hid (own_stays O5.out (fun k hk => b6.block k (own_lt O5.out k hk)))
      have O2 := Lib.hid own6
      clear own6 b6 S2 O5
      go_wp2_with fail
      go_loopw [46] (fun iv wr => ∃ k : Nat, k ≤ D.now.length ∧ iv = .int .i64 k ∧ Below w6.heap.size w6 wr) (fun iv _ => D.now.length - (intOf iv).toNat)
      case atStart => exact ⟨0, Nat.zero_le _, rfl, Below.refl _ _⟩
      case round =>
      obtain ⟨k, hk, rfl, hB⟩ := hrel
      have HB := Lib.hid hB
      clear hB
      by_cases hlt : k < D.now.length
      · obtain ⟨s, hs⟩ : ∃ s, D.now[k]? = some s := ⟨_, List.getElem?_eq_getElem hlt⟩
        obtain ⟨g1, rfl, hg1, _, q1⟩ := SeeF.of_all O1.out k s hs
        obtain ⟨zs, hzs⟩ : ∃ z : ByteArray, z = ⟨s.toArray⟩ := ⟨_, rfl⟩
        unfold st at q1
        rw [← hzs] at q1
        have QW : Hid (∀ w, Below wr.heap.size wr w → w.cell? ⟨g1, k, none⟩ = some (.string zs)) := fun w hw => by rw [(HB.out.trans (hw.mono HB.out.size)).cell (p := ⟨g1, k, none⟩) hg1]; exact q1
        have hki : (k : Int) < (D.now.length : Int) := by omega
        obtain ⟨g2, rfl, hg2, _, q2⟩ := SeeF.of_all O2.out k s hs
        unfold st at q2
        rw [← hzs] at q2
        have QN : Hid (∀ w, Below wr.heap.size wr w → w.cell? ⟨g2, k, none⟩ = some (.string zs)) := fun w hw => by rw [(HB.out.trans (hw.mono HB.out.size)).cell (p := ⟨g2, k, none⟩) hg2]; exact q2
        clear hs q1 q2 hzs
        by_cases hq : (k : Int) = a1
        · subst hq
          have hq' : ((k : Int) != (k : Int)) = false := by simp
          go_wp2_with fail

          refine wp_region_below (B := wr.heap.size) (w0 := wr) (by kernel_rfl) (by kernel_rfl) (Below.refl _ _) ?_
          go_big_quiet_want; go_big_quiet_op; go_big_quiet_on
          go_big_quiet_want; go_big_quiet_op; go_big_quiet_on
          go_big_quiet_want; apply quiet_value; (· (intro w hw; go_simp; try rfl)); simp only [Act.put, List.setIfInBounds_toArray, List.set_cons_succ, List.set_cons_zero]; go_big_quiet_on
          go_big_quiet_want; go_big_quiet_op; go_big_quiet_on
          go_big_quiet_want; go_big_quiet_op; go_big_quiet_on
          go_big_quiet_want; apply quiet_value; (· (intro w hw; go_simp; try rfl)); simp only [Act.put, List.setIfInBounds_toArray, List.set_cons_succ, List.set_cons_zero]; go_big_quiet_on
          go_big_quiet_want; apply quiet_value; (· (intro w hw; go_simp; try rfl)); simp only [Act.put, List.setIfInBounds_toArray, List.set_cons_succ, List.set_cons_zero]; go_big_quiet_on
          go_big_quiet_want; go_big_quiet_op; go_big_quiet_on
          go_big_quiet_want; go_big_quiet_op; go_big_quiet_on
          go_big_quiet_want; go_big_quiet_op; go_big_quiet_on
          go_big_quiet_want; apply quiet_value; (· (intro w hw; go_simp; try rfl)); simp only [Act.put, List.setIfInBounds_toArray, List.set_cons_succ, List.set_cons_zero]; go_big_quiet_on
          go_big_quiet_want; apply quiet_value; (· (intro w hw; have q := QN.out w hw; go_simp; try rfl)); simp only [Act.put, List.setIfInBounds_toArray, List.set_cons_succ, List.set_cons_zero]; go_big_quiet_on
          go_big_quiet_want; go_big_quiet_op; go_big_quiet_on
          go_big_quiet_want; go_big_quiet_op; go_big_quiet_on
          go_big_quiet_want; apply quiet_value; (· (intro w hw; go_simp; try rfl)); simp only [Act.put, List.setIfInBounds_toArray, List.set_cons_succ, List.set_cons_zero]; go_big_quiet_on
          go_big_quiet_want; apply quiet_value; (· (intro w hw; have q := QW.out w hw; go_simp; try rfl)); simp only [Act.put, List.setIfInBounds_toArray, List.set_cons_succ, List.set_cons_zero]; go_big_quiet_on
          go_big_quiet_want; apply quiet_value (v := .bool false); (· (intro w hw; go_simp; try rfl)); simp only [Act.put, List.setIfInBounds_toArray, List.set_cons_succ, List.set_cons_zero]; go_big_quiet_on
          go_big_quiet_want; apply quiet_value; (· (intro w hw; go_simp; try rfl)); simp only [Act.put, List.setIfInBounds_toArray, List.set_cons_succ, List.set_cons_zero]; go_big_quiet_on
          refine wpQuiet_nil ?_
          intro w7 b7
          have HB7 := Lib.hid (HB.out.trans (b7.mono HB.out.size))
          clear b7
          go_wp2
          go_roundw
          case rel => exact ⟨k + 1, by omega, by go_num, HB7.out⟩
          case measure => simp [intOf]; omega
        · have hq' : ((k : Int) != a1) = true := by simp [hq]
          go_wp2_with fail

          refine wp_region_below (B := wr.heap.size) (w0 := wr) (by kernel_rfl) (by kernel_rfl) (Below.refl _ _) ?_
          go_big_quiet_want; go_big_quiet_op; go_big_quiet_on
          go_big_quiet_want; go_big_quiet_op; go_big_quiet_on
          go_big_quiet_want; apply quiet_value; (· (intro w hw; go_simp; try rfl)); simp only [Act.put, List.setIfInBounds_toArray, List.set_cons_succ, List.set_cons_zero]; go_big_quiet_on
          go_big_quiet_want; go_big_quiet_op; go_big_quiet_on
          go_big_quiet_skip
          go_big_quiet_skip
          go_big_quiet_want; apply quiet_value; (· (intro w hw; go_simp; try rfl)); simp only [Act.put, List.setIfInBounds_toArray, List.set_cons_succ, List.set_cons_zero]; go_big_quiet_on
          go_big_quiet_want; go_big_quiet_op; go_big_quiet_on
          go_big_quiet_want; go_big_quiet_op; go_big_quiet_on
          go_big_quiet_want; go_big_quiet_op; go_big_quiet_on
          go_big_quiet_want; apply quiet_value; (· (intro w hw; go_simp; try rfl)); simp only [Act.put, List.setIfInBounds_toArray, List.set_cons_succ, List.set_cons_zero]; go_big_quiet_on
          go_big_quiet_want; apply quiet_value; (· (intro w hw; have q := QN.out w hw; go_simp; try rfl)); simp only [Act.put, List.setIfInBounds_toArray, List.set_cons_succ, List.set_cons_zero]; go_big_quiet_on
          go_big_quiet_want; go_big_quiet_op; go_big_quiet_on
          go_big_quiet_want; go_big_quiet_op; go_big_quiet_on
          go_big_quiet_want; apply quiet_value; (· (intro w hw; go_simp; try rfl)); simp only [Act.put, List.setIfInBounds_toArray, List.set_cons_succ, List.set_cons_zero]; go_big_quiet_on
          go_big_quiet_want; apply quiet_value; (· (intro w hw; have q := QW.out w hw; go_simp; try rfl)); simp only [Act.put, List.setIfInBounds_toArray, List.set_cons_succ, List.set_cons_zero]; go_big_quiet_on
          go_big_quiet_want; apply quiet_value (v := .bool false); (· (intro w hw; go_simp; try rfl)); simp only [Act.put, List.setIfInBounds_toArray, List.set_cons_succ, List.set_cons_zero]; go_big_quiet_on
          go_big_quiet_want; apply quiet_value; (· (intro w hw; go_simp; try rfl)); simp only [Act.put, List.setIfInBounds_toArray, List.set_cons_succ, List.set_cons_zero]; go_big_quiet_on
          refine wpQuiet_nil ?_
          intro w7 b7
          have HB7 := Lib.hid (HB.out.trans (b7.mono HB.out.size))
          clear b7
          go_wp2
          go_roundw
          case rel => exact ⟨k + 1, by omega, by go_num, HB7.out⟩
          case measure => simp [intOf]; omega

      · obtain rfl : k = D.now.length := by omega
        have B7 := Lib.hid (B6.out.trans (HB.out.mono B6.out.size))
        go_wp2_with fail
        refine (alive_any wr).mono ?_
        rintro e w8 ⟨rfl, b8⟩
        have B8 := Lib.hid (B7.out.trans (b8.mono B7.out.size))
        clear b8
        have h8 := H8.out
        by_cases g1 : a1 < 0
        · go_wp2
          go_ret
          exact ⟨rfl, B8.out⟩
        by_cases g2 : 8 ≤ a1
        · go_wp2
          go_ret
          exact ⟨rfl, B8.out⟩
        · have g3 : (64 : Int) < (lb : Int) := by omega
          go_wp2
          go_ret
          exact ⟨rfl, B8.out⟩
    · subst hi
      rw [hE]
      rw [hN] at S2
      clear hE hN
      go_wp2_with fail
      refine S2.out.mono ?_
      rintro e w6 ⟨aw2, c2, rfl, own6, b6⟩
      have B6 := Lib.hid (B5.out.trans (b6.mono B5.out.size))
      have O1 := Lib.hid (own_stays O5.out (fun k hk => b6.block k (own_lt O5.out k hk)))
      have O2 : Hid (w6.ownsRow w5.heap.size 9 1 (.slice aw2 D.now.length c2) D.now.length (strC (D.now.set i (pad b)))) := by rw [List.length_set] at own6; exact own6
      rw [List.length_set]
      clear own6 b6 S2 O5
      go_wp2_with fail
      go_loopw [46] (fun iv wr => ∃ k : Nat, k ≤ D.now.length ∧ iv = .int .i64 k ∧ Below w6.heap.size w6 wr) (fun iv _ => D.now.length - (intOf iv).toNat)
      case atStart => exact ⟨0, Nat.zero_le _, rfl, Below.refl _ _⟩
      case round =>
      obtain ⟨k, hk, rfl, hB⟩ := hrel
      have HB := Lib.hid hB
      clear hB
      by_cases hlt : k < D.now.length
      · obtain ⟨s, hs⟩ : ∃ s, D.now[k]? = some s := ⟨_, List.getElem?_eq_getElem hlt⟩
        obtain ⟨g1, rfl, hg1, _, q1⟩ := SeeF.of_all O1.out k s hs
        obtain ⟨zs, hzs⟩ : ∃ z : ByteArray, z = ⟨s.toArray⟩ := ⟨_, rfl⟩
        unfold st at q1
        rw [← hzs] at q1
        have QW : Hid (∀ w, Below wr.heap.size wr w → w.cell? ⟨g1, k, none⟩ = some (.string zs)) := fun w hw => by rw [(HB.out.trans (hw.mono HB.out.size)).cell (p := ⟨g1, k, none⟩) hg1]; exact q1
        have hki : (k : Int) < (D.now.length : Int) := by omega
        by_cases hq : k = i
        · have hq' : ((k : Int) != (i : Int)) = false := by simp [hq]
          clear hs q1 hzs
          go_wp2_with fail

          refine wp_region_below (B := wr.heap.size) (w0 := wr) (by kernel_rfl) (by kernel_rfl) (Below.refl _ _) ?_
          go_big_quiet_want; go_big_quiet_op; go_big_quiet_on
          go_big_quiet_want; go_big_quiet_op; go_big_quiet_on
          go_big_quiet_want; apply quiet_value; (· (intro w hw; go_simp; try rfl)); simp only [Act.put, List.setIfInBounds_toArray, List.set_cons_succ, List.set_cons_zero]; go_big_quiet_on
          go_big_quiet_want; go_big_quiet_op; go_big_quiet_on
          go_big_quiet_want; go_big_quiet_op; go_big_quiet_on
          go_big_quiet_want; apply quiet_value; (· (intro w hw; go_simp; try rfl)); simp only [Act.put, List.setIfInBounds_toArray, List.set_cons_succ, List.set_cons_zero]; go_big_quiet_on
          go_big_quiet_want; apply quiet_value; (· (intro w hw; go_simp; try rfl)); simp only [Act.put, List.setIfInBounds_toArray, List.set_cons_succ, List.set_cons_zero]; go_big_quiet_on
          go_big_quiet_want; go_big_quiet_op; go_big_quiet_on
          go_big_quiet_skip
          go_big_quiet_skip
          go_big_quiet_skip
          go_big_quiet_skip
          go_big_quiet_skip
          go_big_quiet_skip
          go_big_quiet_skip
          go_big_quiet_skip
          go_big_quiet_skip
          go_big_quiet_want; apply quiet_value; (· (intro w hw; go_simp; try rfl)); simp only [Act.put, List.setIfInBounds_toArray, List.set_cons_succ, List.set_cons_zero]; go_big_quiet_on
          refine wpQuiet_nil ?_
          intro w7 b7
          have HB7 := Lib.hid (HB.out.trans (b7.mono HB.out.size))
          clear b7
          go_wp2
          go_roundw
          case rel => exact ⟨k + 1, by omega, by go_num, HB7.out⟩
          case measure => simp [intOf]; omega
        · have hq' : ((k : Int) != (i : Int)) = true := by simp; omega
          obtain ⟨g2, rfl, hg2, _, q2⟩ := SeeF.of_all (l := D.now.set i (pad b)) (by rw [List.length_set]; exact O2.out) k s (by rw [List.getElem?_set_ne (fun e => hq e.symm)]; exact hs)
          unfold st at q2
          rw [← hzs] at q2
          have QN : Hid (∀ w, Below wr.heap.size wr w → w.cell? ⟨g2, k, none⟩ = some (.string zs)) := fun w hw => by rw [(HB.out.trans (hw.mono HB.out.size)).cell (p := ⟨g2, k, none⟩) hg2]; exact q2
          clear hs q1 q2 hzs
          go_wp2_with fail

          refine wp_region_below (B := wr.heap.size) (w0 := wr) (by kernel_rfl) (by kernel_rfl) (Below.refl _ _) ?_
          go_big_quiet_want; go_big_quiet_op; go_big_quiet_on
          go_big_quiet_want; go_big_quiet_op; go_big_quiet_on
          go_big_quiet_want; apply quiet_value; (· (intro w hw; go_simp; try rfl)); simp only [Act.put, List.setIfInBounds_toArray, List.set_cons_succ, List.set_cons_zero]; go_big_quiet_on
          go_big_quiet_want; go_big_quiet_op; go_big_quiet_on
          go_big_quiet_skip
          go_big_quiet_skip
          go_big_quiet_want; apply quiet_value; (· (intro w hw; go_simp; try rfl)); simp only [Act.put, List.setIfInBounds_toArray, List.set_cons_succ, List.set_cons_zero]; go_big_quiet_on
          go_big_quiet_want; go_big_quiet_op; go_big_quiet_on
          go_big_quiet_want; go_big_quiet_op; go_big_quiet_on
          go_big_quiet_want; go_big_quiet_op; go_big_quiet_on
          go_big_quiet_want; apply quiet_value; (· (intro w hw; go_simp; try rfl)); simp only [Act.put, List.setIfInBounds_toArray, List.set_cons_succ, List.set_cons_zero]; go_big_quiet_on
          go_big_quiet_want; apply quiet_value; (· (intro w hw; have q := QN.out w hw; go_simp; try rfl)); simp only [Act.put, List.setIfInBounds_toArray, List.set_cons_succ, List.set_cons_zero]; go_big_quiet_on
          go_big_quiet_want; go_big_quiet_op; go_big_quiet_on
          go_big_quiet_want; go_big_quiet_op; go_big_quiet_on
          go_big_quiet_want; apply quiet_value; (· (intro w hw; go_simp; try rfl)); simp only [Act.put, List.setIfInBounds_toArray, List.set_cons_succ, List.set_cons_zero]; go_big_quiet_on
          go_big_quiet_want; apply quiet_value; (· (intro w hw; have q := QW.out w hw; go_simp; try rfl)); simp only [Act.put, List.setIfInBounds_toArray, List.set_cons_succ, List.set_cons_zero]; go_big_quiet_on
          go_big_quiet_want; apply quiet_value (v := .bool false); (· (intro w hw; go_simp; try rfl)); simp only [Act.put, List.setIfInBounds_toArray, List.set_cons_succ, List.set_cons_zero]; go_big_quiet_on
          go_big_quiet_want; apply quiet_value; (· (intro w hw; go_simp; try rfl)); simp only [Act.put, List.setIfInBounds_toArray, List.set_cons_succ, List.set_cons_zero]; go_big_quiet_on
          refine wpQuiet_nil ?_
          intro w7 b7
          have HB7 := Lib.hid (HB.out.trans (b7.mono HB.out.size))
          clear b7
          go_wp2
          go_roundw
          case rel => exact ⟨k + 1, by omega, by go_num, HB7.out⟩
          case measure => simp [intOf]; omega

      · obtain rfl : k = D.now.length := by omega
        have B7 := Lib.hid (B6.out.trans (HB.out.mono B6.out.size))
        obtain ⟨g2, rfl, hg2, _, q2⟩ := SeeF.of_all (l := D.now.set i (pad b)) (by rw [List.length_set]; exact O2.out) i (pad b) (List.getElem?_set_self hil)
        obtain ⟨c, hc⟩ : ∃ c, c = 64 - b.length := ⟨_, rfl⟩
        obtain ⟨zp, hzp⟩ : ∃ z : ByteArray, z = ⟨(pad b).toArray⟩ := ⟨_, rfl⟩
        obtain ⟨zb, hzb⟩ : ∃ z : ByteArray, z = ⟨b.toArray⟩ := ⟨_, rfl⟩
        obtain ⟨zz, hzz⟩ : ∃ z : ByteArray, z = ⟨(List.replicate c 0 : Sec).toArray⟩ := ⟨_, rfl⟩
        have hpl := pad_len (b := b) (by omega)
        have hx1 : zp.extract 0 lb = zb := by rw [hzp, hzb, ba_take, ← hbl, pad_take]
        have hx2 : zp.extract lb 64 = zz := by rw [hzp, hzz, ba_drop' _ _ hpl, ← hbl, pad_drop, hc]
        have hxs : zp.size = 64 := by rw [hzp]; simpa [ByteArray.size] using hpl
        unfold st at q2
        rw [← hzp] at q2
        have QG : Hid (∀ w, Below wr.heap.size wr w → w.cell? ⟨g2, i, none⟩ = some (.string zp)) := fun w hw => by rw [(HB.out.trans (hw.mono HB.out.size)).cell (p := ⟨g2, i, none⟩) hg2]; exact q2
        have QB : Hid (∀ w, Below wr.heap.size wr w → (convert 36 9 (.slice ab lb cb)).run Try.prog w = .ok (.string zb) w) := fun w hw => by
          rw [hzb]; exact conv_any (HBB.out.bel (B7.out.trans (hw.mono B7.out.size))) cb
        have hc64 : c ≤ 64 := by omega
        have hmk := mkc c hc64
        have hsub : (64 : Int) - (lb : Int) = (c : Int) := by omega
        have hl6 : (lb : Int) ≤ 64 := by omega
        have hii : (i : Int) < (D.now.length : Int) := by omega
        have hwc : IntKind.i64.wrap (c : Int) = (c : Int) := by rw [IntKind.wrap_i64]; omega
        have HZZ := Lib.hid hzz
        clear hzp hzb q2 hpl O1 O2 hc hbl hzz
        go_wp2_with fail
        refine wp_region_steps (fun w' => Below wr.heap.size wr w') [(false, 0), (true, 1), (true, 2), (true, 3), (true, 4), (true, 5), (true, 6), (true, 7), (true, 8), (true, 9), (true, 10), (true, 11), (true, 12), (true, 13), (true, 14), (true, 15), (true, 16), (true, 17), (true, 18), (true, 19), (true, 20), (true, 21), (true, 22), (true, 23), (false, 24), (false, 25), (false, 26), (false, 27), (false, 28)] 28 _ _ (by kernel_rfl) rfl (by kernel_rfl) (by kernel_rfl) rfl (fun _ _ _ _ _ h => h) (Below.refl wr.heap.size wr).drew ?_
        intro S HS
        simp only [pickS, List.getElem?_cons_zero, List.getElem?_cons_succ]
        refine wpSteps_more ?_
        go_wp2_with fail
        refine (alive_any wr.drew).mono ?_
        rintro e w8 ⟨rfl, b8⟩
        have B8 := Lib.hid ((Below.refl wr.heap.size wr).drew.trans b8)
        clear b8
        go_wp2_with fail
        refine ThenS.mk ((HS.out _).2 B8.out) ?_
        refine wpSteps_head ?_
        go_big_quiet_want; go_big_quiet_op; go_big_quiet_on
        refine wpQuiet_nil ?_
        refine wpSteps_head ?_
        go_big_quiet_want; go_big_quiet_op; go_big_quiet_on
        refine wpQuiet_nil ?_
        refine wpSteps_head ?_
        go_big_quiet_want; go_big_quiet_op; go_big_quiet_on
        refine wpQuiet_nil ?_
        refine wpSteps_head ?_
        go_big_quiet_want; apply quiet_value; (· (intro w' hw; go_simp; try rfl)); simp only [Act.put, List.setIfInBounds_toArray, List.set_cons_succ, List.set_cons_zero]; go_big_quiet_on
        refine wpQuiet_nil ?_
        refine wpSteps_head ?_
        go_big_quiet_want; apply quiet_value; (· (intro w' hw; have q := QG.out _ ((HS.out _).1 hw); go_simp; try rfl)); simp only [Act.put, List.setIfInBounds_toArray, List.set_cons_succ, List.set_cons_zero]; go_big_quiet_on
        refine wpQuiet_nil ?_
        refine wpSteps_head ?_
        go_big_quiet_want; go_big_quiet_op; go_big_quiet_on
        refine wpQuiet_nil ?_
        refine wpSteps_head ?_
        go_big_quiet_want; apply quiet_value; (· (intro w' hw; go_simp; try rfl)); simp only [Act.put, List.setIfInBounds_toArray, List.set_cons_succ, List.set_cons_zero]; go_big_quiet_on
        refine wpQuiet_nil ?_
        refine wpSteps_head ?_
        go_big_quiet_want; apply quiet_value; (· (intro w' hw; go_simp; try rfl)); simp only [Act.put, List.setIfInBounds_toArray, List.set_cons_succ, List.set_cons_zero]; go_big_quiet_on
        refine wpQuiet_nil ?_
        refine wpSteps_head ?_
        go_big_quiet_want; go_big_quiet_op; go_big_quiet_on
        refine wpQuiet_nil ?_
        refine wpSteps_head ?_
        go_big_quiet_want; apply quiet_value; (· (intro w' hw; have hcv := QB.out _ ((HS.out _).1 hw); go_simp; try rfl)); simp only [Act.put, List.setIfInBounds_toArray, List.set_cons_succ, List.set_cons_zero]; go_big_quiet_on
        refine wpQuiet_nil ?_
        refine wpSteps_head ?_
        go_big_quiet_want; apply quiet_value; (· (intro w' hw; go_simp; try rfl)); simp only [Act.put, List.setIfInBounds_toArray, List.set_cons_succ, List.set_cons_zero]; go_big_quiet_on
        refine wpQuiet_nil ?_
        refine wpSteps_head ?_
        go_big_quiet_want; apply quiet_value; (· (intro w' hw; go_simp; try rfl)); simp only [Act.put, List.setIfInBounds_toArray, List.set_cons_succ, List.set_cons_zero]; go_big_quiet_on
        refine wpQuiet_nil ?_
        refine wpSteps_head ?_
        go_big_quiet_want; go_big_quiet_op; go_big_quiet_on
        refine wpQuiet_nil ?_
        refine wpSteps_head ?_
        go_big_quiet_want; go_big_quiet_op; go_big_quiet_on
        refine wpQuiet_nil ?_
        refine wpSteps_head ?_
        go_big_quiet_want; go_big_quiet_op; go_big_quiet_on
        refine wpQuiet_nil ?_
        refine wpSteps_head ?_
        go_big_quiet_want; apply quiet_value; (· (intro w' hw; go_simp; try rfl)); simp only [Act.put, List.setIfInBounds_toArray, List.set_cons_succ, List.set_cons_zero]; go_big_quiet_on
        refine wpQuiet_nil ?_
        refine wpSteps_head ?_
        go_big_quiet_want; apply quiet_value; (· (intro w' hw; have q := QG.out _ ((HS.out _).1 hw); go_simp; try rfl)); simp only [Act.put, List.setIfInBounds_toArray, List.set_cons_succ, List.set_cons_zero]; go_big_quiet_on
        refine wpQuiet_nil ?_
        refine wpSteps_head ?_
        go_big_quiet_want; go_big_quiet_op; go_big_quiet_on
        refine wpQuiet_nil ?_
        refine wpSteps_head ?_
        go_big_quiet_want; apply quiet_value; (· (intro w' hw; go_simp; try rfl)); simp only [Act.put, List.setIfInBounds_toArray, List.set_cons_succ, List.set_cons_zero]; go_big_quiet_on
        refine wpQuiet_nil ?_
        refine wpSteps_head ?_
        go_big_quiet_want; apply quiet_value; (· (intro w' hw; go_simp; try rfl)); simp only [Act.put, List.setIfInBounds_toArray, List.set_cons_succ, List.set_cons_zero]; go_big_quiet_on
        refine wpQuiet_nil ?_
        refine wpSteps_head ?_
        go_big_quiet_want; go_big_quiet_op; go_big_quiet_on
        refine wpQuiet_nil ?_
        refine wpSteps_head ?_
        go_big_quiet_want; apply quiet_value; (· (intro w' hw; go_simp; try rfl)); simp only [Act.put, List.setIfInBounds_toArray, List.set_cons_succ, List.set_cons_zero]; go_big_quiet_on
        refine wpQuiet_nil ?_
        refine wpSteps_head ?_
        go_big_quiet_want; apply quiet_value; (· (intro w' hw; go_simp; try rfl)); simp only [Act.put, List.setIfInBounds_toArray, List.set_cons_succ, List.set_cons_zero]; go_big_quiet_on
        refine wpQuiet_nil ?_
        refine wpSteps_more ?_
        have hbA := (Below.refl w8.heap.size w8).alloc (Nat.le_refl _) (.cells (bc (List.replicate c 0)).toArray 5)
        have hcz := conv_any (bys_newc w8 (List.replicate c 0) (by rw [List.length_replicate]; omega)) c
        rw [List.length_replicate] at hcz
        unfold st at hcz
        rw [← HZZ.out] at hcz
        refine wpList_mk rfl 36 (.tmp 107) (.tmp 107) rfl _ (.int .i64 (c : Int)) (.int .i64 (c : Int)) _ rfl rfl (hmk _) ?_
        simp only [Act.put, List.setIfInBounds_toArray, List.set_cons_succ, List.set_cons_zero]
        go_wp2_with fail
        refine ThenS.mk ((HS.out _).2 (B8.out.trans (hbA.mono B8.out.size))) ?_
        refine wpSteps_more ?_
        go_wp2_with fail
        refine ThenS.mk ((HS.out _).2 (B8.out.trans (hbA.mono B8.out.size))) ?_
        refine wpSteps_more ?_
        go_wp2_with fail
        refine ThenS.mk ((HS.out _).2 (B8.out.trans (hbA.mono B8.out.size))) ?_
        refine wpSteps_more ?_
        go_wp2_with fail
        refine ThenS.mk ((HS.out _).2 (B8.out.trans (hbA.mono B8.out.size))) ?_
        refine wpSteps_last ?_
        go_wp2
        go_ret
        exact ⟨rfl, B7.out.trans ((B8.out.trans (hbA.mono B8.out.size)).mono B7.out.size)⟩
theorem platterReads_walk {H : Type} {enc : TypeId × Value → H} {base : Nat} {p0 : List MemPlace} (W : World) (v0 : Value) (d0 : DataW H) (hv : Value.okWide Try.prog W .any base 22 v0) (h : DataW.Trod enc Try.prog W 0 (fun _ => true) true 22 v0 d0 p0) (_b : ∀ n ∈ d0.weights Try.prog 22, n ≤ 140737488351232)
    (a1 : Int) (_w1 : (Lit.int .i64 a1).wf = true) (a2 : Option Addr) (len2 cap2 : Nat) (z2 : List Int) (w2 : Ints .u8 W a2 len2 z2) (_c2 : len2 ≤ cap2) (_b2 : len2 * 1 ≤ 140737488351232) :
    Calls Try.prog 8 #[v0, .int .i64 a1, .slice a2 len2 cap2] W fun e W' => e = .returned (.bool true) ∧ Below W.heap.size W W' := by
  obtain ⟨a, len, cap, xs, rfl, hP, h1, h2⟩ := open_ops hv h
  exact reads_core W a len cap xs hP (by omega) a1 a2 len2 cap2 _ (bys_of_ints w2)
end Go.Proofs.Ytpgoacemjpobjaa
