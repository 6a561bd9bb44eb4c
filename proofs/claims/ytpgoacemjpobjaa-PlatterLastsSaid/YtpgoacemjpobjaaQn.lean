/- The walk of PlatterFinds. Conditions: the script lies in memory. -/
import Derived.Test.YtpgoacemjpobjaaQm
namespace Go.Proofs.Ytpgoacemjpobjaa
open Go Go.RowKit
set_option linter.unusedVariables false
set_option linter.unusedSimpArgs false

theorem firm_dies {D : Dk} : (diesD D).firm = D.firm := by unfold diesD; split <;> rfl
theorem firm_step (o : Op4) {D : Dk} (h : Good D) : (stepA o D).1.firm.length = D.firm.length := by
  unfold stepA
  split
  · rfl
  · split
    · exact (crashL_full h _ _).2
    · split
      · rfl
      · split
        · rfl
        · split
          · unfold syncD
            split
            · rfl
            · split
              · rw [firm_dies]
              · exact laid_len _ _
          · split
            · rfl
            · split
              · rfl
              · simp only [firm_dies, putD]
theorem firm_play {D : Dk} (xs : List In4) (hx : ∀ x ∈ xs, Fits x.o) (h : Good D) : (playD xs D).firm.length = D.firm.length := by
  unfold playD
  induction xs generalizing D with
  | nil => rfl
  | cons o os ih =>
    rw [List.foldl_cons, ih (fun x hx' => hx x (by simp [hx'])) (good_step o.o (hx o (by simp)) h), firm_step _ h]
theorem SeeF.of_all {w : World} {B c : Nat} {a : Option Addr} {l : List Sec} (h : w.ownsRow B 9 1 (.slice a l.length c) l.length (strC l)) (k : Nat) (s : Sec) (hs : l[k]? = some s) : ∃ g, a = some ⟨g, 0, none⟩ ∧ g < w.heap.size ∧ B ≤ g ∧ w.cell? ⟨g, k, none⟩ = some (st s) := by
  have hlt := (List.getElem?_eq_some_iff.1 hs).1
  obtain ⟨g, h1, h2, h3, h4⟩ := own_at h 0 (by omega)
  exact ⟨g, h1, h3, h2, h4 k _ (by simp [strC, hs])⟩
/-- a read on a disk that lives. -/
theorem read_ok {w : World} {base n : Nat} {V : Vs} {D : Dk} (h : Dsk w base n V D) (hg : Good D) (hd : D.dead = false) (k : Nat) (s : Sec) (hs : D.now[k]? = some s) :
    Calls Try.prog 16 #[.pointer (some ⟨n, 0, none⟩), .int .i64 (k : Int)] w (fun e w' => e = .returned (.tuple #[.slice (some ⟨w.heap.size, 0, none⟩) 64 64, .int .i64 0]) ∧ w' = w.alloc (.cells (bc s).toArray 63)) :=
  (read_any (k : Int) h hg).mono (fun e w' hh => by
    rcases hh with ⟨hm, _⟩ | ⟨_, s', hs', he, hw⟩
    · exact absurd (may_0 D hd k (List.getElem?_eq_some_iff.1 hs).1) hm
    · have : s' = s := by rw [Int.toNat_natCast, hs] at hs'; exact (Option.some.inj hs').symm
      subst this
      exact ⟨he, hw⟩)

set_option maxHeartbeats 4000000 in
set_option maxRecDepth 100000 in
theorem finds_core (W : World) (a : Option Addr) (len cap : Nat) (xs : List In4) (hO : OpsAt W a len xs) (hm : len ≤ maxLen) (keep tear : Int) :
    Calls Try.prog 4 #[.slice a len cap, .int .i64 keep, .int .i64 tear] W fun e W' => e = .returned (.bool true) ∧ Below W.heap.size W W' := by
  unfold maxLen at hm
  by_cases h2 : 200 < len
  · have h2' : (200 : Int) < (len : Int) := by omega
    clear hO h2
    go_enter Try.func4, Try.ntmps4
    go_wp2_with fail
    refine (alive_any W).mono ?_
    rintro e w2 ⟨rfl, b2⟩
    go_wp2
    go_ret
    exact ⟨rfl, b2⟩
  · have h2' : ¬ (200 : Int) < (len : Int) := by omega
    have C1 := Lib.hid (plays_any (w := W) 8 (by omega) a len cap xs hO (by omega))
    have HGP := Lib.hid (good_play (D := newD 8) xs (fun x hx => (hO.2 x hx).2) (good_new 8))
    have HWP : Hid ((playD xs (newD 8)).wait.length ≤ 200) := by
      have h1 := wait_play (D := newD 8) xs
      have h2 := hO.len
      have h3 : (newD 8).wait.length = 0 := rfl
      show (playD xs (newD 8)).wait.length ≤ 200
      omega
    have HLP : Hid ((playD xs (newD 8)).firm.length = 8) := by
      show (playD xs (newD 8)).firm.length = 8
      rw [firm_play xs (fun x hx => (hO.2 x hx).2) (good_new 8)]; rfl
    clear hO h2
    go_enter Try.func4, Try.ntmps4
    go_wp2_with fail
    refine C1.out.mono ?_
    rintro e w1 ⟨n, V, af, aw, cf, cw, rfl, hD, hR, b1⟩
    unfold rdv
    clear C1
    generalize playD xs (newD 8) = D at HGP HWP HLP hD hR ⊢
    have bA := (Below.refl w1.heap.size w1).alloc (Nat.le_refl _) (.cells #[.slice af D.firm.length cf, .slice aw D.wait.length cw, .int .i64 D.armed, .bool D.dead] 28)
    have HD2 := Lib.hid (hD.bel bA)
    have HR2 := Lib.hid (hR.bel bA)
    have HX2 := Lib.hid (Box.new w1 28 #[.slice af D.firm.length cf, .slice aw D.wait.length cw, .int .i64 D.armed, .bool D.dead])
    have B2 := Lib.hid (b1.trans (bA.mono b1.size))
    have HWL := Lib.hid (show D.wait.length ≤ 1000000 from by have := HWP.out; omega)
    clear hD hR b1 bA
    go_wp2_with fail
    generalize w1.alloc (.cells #[.slice af D.firm.length cf, .slice aw D.wait.length cw, .int .i64 D.armed, .bool D.dead] 28) = w2 at HD2 HR2 HX2 B2 ⊢
    generalize w1.heap.size = t8 at HX2 ⊢
    refine (crash_any keep tear HD2.out B2.out.size HGP.out HWL.out).mono ?_
    rintro e w3 ⟨n5, V5, rfl, hD5, b3⟩
    have HD3 := Lib.hid (HD2.out.bel b3)
    have HR3 := Lib.hid (HR2.out.bel b3)
    have HX3 := Lib.hid (HX2.out.below b3 HX2.out.lt)
    have B3 := Lib.hid (B2.out.trans (b3.mono B2.out.size))
    have HD5 := Lib.hid hD5
    have F1 : Hid (∀ w, Below w3.heap.size w3 w → Calls Try.prog 12 #[.pointer (some ⟨n5, 0, none⟩)] w fun e w' => e = .returned (.bool false) ∧ w = w') := fun w hw => dead_any (HD5.out.bel hw)
    have F2 : Hid (∀ w, Below w3.heap.size w3 w → Calls Try.prog 13 #[.pointer (some ⟨n5, 0, none⟩)] w fun e w' => e = .returned (.int .i64 0) ∧ w = w') := fun w hw => pending_any (HD5.out.bel hw) (by show 0 ≤ 1000000; omega)
    have F3 : Hid (∀ w, Below w3.heap.size w3 w → Calls Try.prog 12 #[.pointer (some ⟨n, 0, none⟩)] w fun e w' => e = .returned (.bool D.dead) ∧ w = w') := fun w hw => dead_any (HD3.out.bel hw)
    have F4 : Hid (∀ w, Below w3.heap.size w3 w → Calls Try.prog 13 #[.pointer (some ⟨n, 0, none⟩)] w fun e w' => e = .returned (.int .i64 D.wait.length) ∧ w = w') := fun w hw => pending_any (HD3.out.bel hw) HWL.out
    clear hD5 b3 HD2 HR2 HX2
    go_wp2_with fail
    refine wp_region_below (B := w3.heap.size) (w0 := w3) (by kernel_rfl) (by kernel_rfl) (Below.refl _ _) ?_
    go_big_quiet_want; go_big_quiet_op; go_big_quiet_on
    go_big_quiet_want; apply quiet_value (v := .bool false); (· (intro w hw; go_simp; try rfl)); simp only [Act.put, List.setIfInBounds_toArray, List.set_cons_succ, List.set_cons_zero]; go_big_quiet_on
    go_big_quiet_want; go_big_quiet_op; go_big_quiet_on
    go_big_quiet_want; go_big_quiet_op; go_big_quiet_on
    go_big_quiet_want; apply quiet_call (f := 12); (· (intro w hw; go_simp; try rfl)); (· (intro w hw; exact in_class (F1.out w hw) hw)); simp only [Act.put, List.setIfInBounds_toArray, List.set_cons_succ, List.set_cons_zero]; go_big_quiet_on
    go_big_quiet_want; apply quiet_value; (· (intro w hw; go_simp; try rfl)); simp only [Act.put, List.setIfInBounds_toArray, List.set_cons_succ, List.set_cons_zero]; go_big_quiet_on
    go_big_quiet_want; go_big_quiet_op; go_big_quiet_on
    go_big_quiet_want; go_big_quiet_op; go_big_quiet_on
    go_big_quiet_want; apply quiet_call (f := 13); (· (intro w hw; go_simp; try rfl)); (· (intro w hw; exact in_class (F2.out w hw) hw)); simp only [Act.put, List.setIfInBounds_toArray, List.set_cons_succ, List.set_cons_zero]; go_big_quiet_on
    go_big_quiet_want; apply quiet_value (v := .bool false); (· (intro w hw; go_simp; try rfl)); simp only [Act.put, List.setIfInBounds_toArray, List.set_cons_succ, List.set_cons_zero]; go_big_quiet_on
    go_big_quiet_want; apply quiet_value; (· (intro w hw; go_simp; try rfl)); simp only [Act.put, List.setIfInBounds_toArray, List.set_cons_succ, List.set_cons_zero]; go_big_quiet_on
    go_big_quiet_want; go_big_quiet_op; go_big_quiet_on
    go_big_quiet_want; go_big_quiet_op; go_big_quiet_on
    go_big_quiet_want; apply quiet_call (f := 12); (· (intro w hw; go_simp; try rfl)); (· (intro w hw; exact in_class (F3.out w hw) hw)); simp only [Act.put, List.setIfInBounds_toArray, List.set_cons_succ, List.set_cons_zero]; go_big_quiet_on
    go_big_quiet_want; apply quiet_value; (· (intro w hw; have hx := HX3.out.below hw HX3.out.lt; have y1 : w.cell? ⟨t8, 1, none⟩ = some (.slice aw D.wait.length cw) := hx.cell 1; have y3 : w.cell? ⟨t8, 3, none⟩ = some (.bool D.dead) := hx.cell 3; go_simp; try rfl)); simp only [Act.put, List.setIfInBounds_toArray, List.set_cons_succ, List.set_cons_zero]; go_big_quiet_on
    go_big_quiet_want; apply quiet_value; (· (intro w hw; have hx := HX3.out.below hw HX3.out.lt; have y1 : w.cell? ⟨t8, 1, none⟩ = some (.slice aw D.wait.length cw) := hx.cell 1; have y3 : w.cell? ⟨t8, 3, none⟩ = some (.bool D.dead) := hx.cell 3; go_simp; try rfl)); simp only [Act.put, List.setIfInBounds_toArray, List.set_cons_succ, List.set_cons_zero]; go_big_quiet_on
    go_big_quiet_want; apply quiet_value (v := .bool false); (· (intro w hw; go_simp; try rfl)); simp only [Act.put, List.setIfInBounds_toArray, List.set_cons_succ, List.set_cons_zero]; go_big_quiet_on
    go_big_quiet_want; apply quiet_value; (· (intro w hw; go_simp; try rfl)); simp only [Act.put, List.setIfInBounds_toArray, List.set_cons_succ, List.set_cons_zero]; go_big_quiet_on
    go_big_quiet_want; go_big_quiet_op; go_big_quiet_on
    go_big_quiet_want; go_big_quiet_op; go_big_quiet_on
    go_big_quiet_want; apply quiet_call (f := 13); (· (intro w hw; go_simp; try rfl)); (· (intro w hw; exact in_class (F4.out w hw) hw)); simp only [Act.put, List.setIfInBounds_toArray, List.set_cons_succ, List.set_cons_zero]; go_big_quiet_on
    go_big_quiet_want; apply quiet_value; (· (intro w hw; have hx := HX3.out.below hw HX3.out.lt; have y1 : w.cell? ⟨t8, 1, none⟩ = some (.slice aw D.wait.length cw) := hx.cell 1; have y3 : w.cell? ⟨t8, 3, none⟩ = some (.bool D.dead) := hx.cell 3; go_simp; try rfl)); simp only [Act.put, List.setIfInBounds_toArray, List.set_cons_succ, List.set_cons_zero]; go_big_quiet_on
    go_big_quiet_want; apply quiet_value; (· (intro w hw; have hx := HX3.out.below hw HX3.out.lt; have y1 : w.cell? ⟨t8, 1, none⟩ = some (.slice aw D.wait.length cw) := hx.cell 1; have y3 : w.cell? ⟨t8, 3, none⟩ = some (.bool D.dead) := hx.cell 3; go_simp; try rfl)); simp only [Act.put, List.setIfInBounds_toArray, List.set_cons_succ, List.set_cons_zero]; go_big_quiet_on
    go_big_quiet_want; apply quiet_value; (· (intro w hw; go_simp; try rfl)); simp only [Act.put, List.setIfInBounds_toArray, List.set_cons_succ, List.set_cons_zero]; go_big_quiet_on
    go_big_quiet_want; apply quiet_value (v := .bool false); (· (intro w hw; go_simp; try rfl)); simp only [Act.put, List.setIfInBounds_toArray, List.set_cons_succ, List.set_cons_zero]; go_big_quiet_on
    go_big_quiet_want; apply quiet_value; (· (intro w hw; go_simp; try rfl)); simp only [Act.put, List.setIfInBounds_toArray, List.set_cons_succ, List.set_cons_zero]; go_big_quiet_on
    refine wpQuiet_nil ?_
    intro w4 b4
    have HR4 := Lib.hid (HR3.out.bel b4)
    have HX4 := Lib.hid (HX3.out.below b4 HX3.out.lt)
    have HD4 := Lib.hid (HD5.out.bel b4)
    have B4 := Lib.hid (B3.out.trans (b4.mono B3.out.size))
    clear b4 F1 F2 F3 F4 HD3 HR3 HX3 HD5
    have y0 : w4.cell? ⟨t8, 0, none⟩ = some (.slice af D.firm.length cf) := HX4.out.cell 0
    have y1 : w4.cell? ⟨t8, 1, none⟩ = some (.slice aw D.wait.length cw) := HX4.out.cell 1
    have y2 : w4.cell? ⟨t8, 2, none⟩ = some (.int .i64 D.armed) := HX4.out.cell 2
    have y3 : w4.cell? ⟨t8, 3, none⟩ = some (.bool D.dead) := HX4.out.cell 3
    have C5 := Lib.hid (rcrash_any keep tear HR4.out HGP.out HWL.out)
    obtain ⟨D5, hD5⟩ : ∃ D5, D5 = crashD D keep tear := ⟨_, rfl⟩
    have HG5 : Hid (Good D5) := by rw [hD5]; exact good_crash HGP.out _ _
    have HW5 : Hid (D5.wait.length ≤ 1000000) := by rw [hD5]; show 0 ≤ 1000000; omega
    have HDD : Hid (D5.dead = false) := by rw [hD5]; exact (rfl : (crashD D keep tear).dead = false)
    rw [← hD5] at C5 HD4
    unfold rdv at C5
    clear hD5
    go_wp2_with fail
    refine C5.out.mono ?_
    rintro e w5 ⟨ar, cr, rfl, hr5, b5⟩
    have HD55 := Lib.hid (HD4.out.bel b5)
    have B5 := Lib.hid (B4.out.trans (b5.mono B4.out.size))
    have C6 := Lib.hid (rall_any hr5 HG5.out HW5.out)
    unfold rdv at C6
    clear C5 hr5 b5 y0 y1 y2 y3
    go_wp2_with fail
    refine C6.out.mono ?_
    rintro e w6 ⟨a6, c6, rfl, own6, b6⟩
    have HD6 := Lib.hid (HD55.out.bel b6)
    have HO6 := Lib.hid own6
    have B6 := Lib.hid (B5.out.trans (b6.mono B5.out.size))
    have hmany := HG5.out.many
    clear own6 b6 C6
    go_wp2_with fail
    go_loopw [63] (fun iv wr => ∃ k : Nat, k ≤ D5.now.length ∧ iv = .int .i64 k ∧ Below w6.heap.size w6 wr) (fun iv _ => D5.now.length - (intOf iv).toNat)
    case atStart => exact ⟨0, Nat.zero_le _, rfl, Below.refl _ _⟩
    case round =>
      obtain ⟨k, hk, rfl, hB⟩ := hrel
      have HB := Lib.hid hB
      clear hB
      by_cases hlt : k < D5.now.length
      · obtain ⟨s, hs⟩ : ∃ s, D5.now[k]? = some s := ⟨_, List.getElem?_eq_getElem hlt⟩
        obtain ⟨g, rfl, hgl, _, cc⟩ := SeeF.of_all HO6.out k s hs
        rw [← HB.out.cell (p := ⟨g, k, none⟩) hgl] at cc
        have C7 := Lib.hid (read_ok (HD6.out.bel HB.out) HG5.out HDD.out k s hs)
        have hl := HG5.out.fulln s (List.mem_of_getElem? hs)
        have hcv := conv_any (bys_new wr s 63 hl) 64
        obtain ⟨z, hz⟩ : ∃ z : ByteArray, z = ⟨s.toArray⟩ := ⟨_, rfl⟩
        unfold st at hcv cc
        rw [← hz] at hcv cc
        have hgr : g < wr.heap.size := Nat.lt_of_lt_of_le hgl HB.out.size
        have HBA := Lib.hid (HB.out.alloc HB.out.size (.cells (bc s).toArray 63))
        have hki : (k : Int) < (D5.now.length : Int) := by omega
        clear hs hl hz
        go_wp2_with fail
        refine C7.out.mono ?_
        rintro e w7 ⟨rfl, rfl⟩
        go_wp2
        go_roundw
        case rel => exact ⟨k + 1, by omega, by go_num, HBA.out⟩
        case measure => simp [intOf]; omega
      · obtain rfl : k = D5.now.length := by omega
        have B7 := Lib.hid (B6.out.trans (HB.out.mono B6.out.size))
        go_wp2_with fail
        refine (alive_any wr).mono ?_
        rintro e w8 ⟨rfl, b8⟩
        have B8 := Lib.hid (B7.out.trans (b8.mono B7.out.size))
        clear b8
        go_wp2
        go_ret
        exact ⟨rfl, B8.out⟩
theorem platterFinds_walk {H : Type} {enc : TypeId × Value → H} {base : Nat} {p0 : List MemPlace} (W : World) (v0 : Value) (d0 : DataW H) (hv : Value.okWide Try.prog W .any base 22 v0) (h : DataW.Trod enc Try.prog W 0 (fun _ => true) true 22 v0 d0 p0) (_b : ∀ n ∈ d0.weights Try.prog 22, n ≤ 140737488351232)
    (a1 : Int) (_w1 : (Lit.int .i64 a1).wf = true) (a2 : Int) (_w2 : (Lit.int .i64 a2).wf = true) :
    Calls Try.prog 4 #[v0, .int .i64 a1, .int .i64 a2] W fun e W' => e = .returned (.bool true) ∧ Below W.heap.size W W' := by
  obtain ⟨a, len, cap, xs, rfl, hP, h1, h2⟩ := open_ops hv h
  exact finds_core W a len cap xs hP (by omega) a1 a2
end Go.Proofs.Ytpgoacemjpobjaa
