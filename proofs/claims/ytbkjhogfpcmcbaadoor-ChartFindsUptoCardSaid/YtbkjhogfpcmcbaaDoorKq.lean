/- chart: the document's candidate. Conditions: texts have at most 1900000 bytes; the library's variable holds a number. -/
import Derived.Test.YtbkjhogfpcmcbaaDoorKp
import Derived.Test.YtbkjhogfpcmcbaaDoorKi
namespace Go.Proofs.YtbkjhogfpcmcbaaDoor
open Go Go.RowKit Zn
set_option linter.unusedVariables false
set_option linter.unusedSimpArgs false
variable {w w' : World}
def rcK (s : Nm) : Int := if candB s then candK s else -1
def RCanded (w : World) (s : Nm) (e : Ending) (w' : World) : Prop := e = .returned (.tuple #[.int .i64 (rcK s), .int .i64 (candN s)]) ∧ Below w.heap.size w w'
theorem RCanded.no {s : Nm} (h : candB s = false) (hb : Below w.heap.size w w') : RCanded w s (.returned (.tuple #[.int .i64 (-1), .int .i64 0])) w' := by
  refine ⟨?_, hb⟩
  unfold rcK candN
  rw [h]; rfl
theorem RCanded.yes {s : Nm} {k n : Int} (h : candB s = true) (hk : k = (((pre10 (47 :: s)).getD 2 0).toNat : Int) - 48) (hn : n = cutN (47 :: s)) (hb : Below w.heap.size w w') : RCanded w s (.returned (.tuple #[.int .i64 k, .int .i64 n])) w' := by
  refine ⟨?_, hb⟩
  unfold rcK candN candK
  rw [h, if_pos rfl, if_pos rfl, if_pos rfl, hk, hn]
set_option maxHeartbeats 1000000 in
theorem rcand_any (s : ByteArray) (w : World) (hs : s.size ≤ 1900000) : Calls Tryd.prog 59 #[.string s] w (RCanded w s.data.toList) := by
  obtain ⟨p, hp⟩ : ∃ p, p = (47 : UInt8) :: s.data.toList := ⟨_, rfl⟩
  have hd : ((⟨#[47]⟩ : ByteArray) ++ s).data.toList = p := by rw [hp, ByteArray.data_append, Array.toList_append]; rfl
  have C := rcut_any ((⟨#[47]⟩ : ByteArray) ++ s) w (by rw [Lib.size_eq, hd, hp, List.length_cons, ← Lib.size_eq]; omega)
  rw [hd] at C
  unfold Cutted at C
  obtain ⟨N, hN⟩ : ∃ N, N = cutN p := ⟨_, rfl⟩
  have HN := Lib.hid hN
  have HP := Lib.hid hp
  rw [← hN] at C
  cases hc : cutB p with
  | false =>
    rw [hc] at C
    have C := Lib.hid C
    have HC := Lib.hid (show candB s.data.toList = false by unfold candB; rw [← HP.out, hc]; rfl)
    clear hd hc hN hp
    go_enter Tryd.func59, Tryd.ntmps59
    go_wp2_with fail
    refine C.out.mono ?_
    rintro e w1 ⟨rfl, b1⟩
    have HB := Lib.hid b1
    clear b1 C
    go_wp2_with fail
    exact ret_two (t := 2) (u := 3) (by kernel_rfl) rfl rfl rfl (RCanded.no HC.out HB.out)
  | true =>
    rw [hc] at C
    have hX : cutP p = pre10 p := by unfold cutP; rw [hc]; rfl
    rw [hX] at C
    obtain ⟨X, hXX⟩ : ∃ X : ByteArray, X = ⟨(pre10 p).toArray⟩ := ⟨_, rfl⟩
    have hXd : X.data.toList = pre10 p := by rw [hXX]
    rw [← hXX] at C
    have HF := Lib.hid (show candB s.data.toList = formB X.data.toList by unfold candB; rw [← HP.out, hc, hXd]; rfl)
    have HXD := Lib.hid hXd
    have C := Lib.hid C
    have hsl : X.data.toList.length = X.size := (Lib.size_eq X).symm
    by_cases h4 : X.size = 4
    rotate_left
    · have HC := Lib.hid (HF.out.trans (form_len (by rw [hsl]; exact h4)))
      have h4' : ((X.size : Int) != 4) = true := by rw [bne_iff_ne]; omega
      clear hd hc hN hp hX hXX hXd hsl h4
      go_enter Tryd.func59, Tryd.ntmps59
      go_wp2_with fail
      refine C.out.mono ?_
      rintro e w1 ⟨rfl, b1⟩
      have HB := Lib.hid b1
      clear b1 C
      go_wp2_with fail
      exact ret_two (t := 2) (u := 3) (by kernel_rfl) rfl rfl rfl (RCanded.no HC.out HB.out)
    · obtain ⟨a, b, c, d, habcd⟩ : ∃ a b c d, X.data.toList = [a, b, c, d] := by
        rw [h4] at hsl
        match hh : X.data.toList, hsl with
        | [a, b, c, d], _ => exact ⟨a, b, c, d, rfl⟩
      have i2 : 2 < X.size := by omega
      have i3 : 3 < X.size := by omega
      have e2 : X[2]'i2 = c := by have := at_byte X 2 i2; rw [habcd] at this; simpa using this.symm
      have e3 : X[3]'i3 = d := by have := at_byte X 3 i3; rw [habcd] at this; simpa using this.symm
      have hpre : (X.extract 0 2).data.toList = [a, b] := by rw [Lib.extract_data, habcd]; rfl
      have hxe : ((X.extract 0 2).toList == [47, 110]) = decide (a = 47 ∧ b = 110) := by
        rw [Lib.toList_data, hpre]
        rw [Bool.eq_iff_iff, beq_iff_eq, decide_eq_true_iff]
        simp
      have HF := Lib.hid (HF.out.trans (show formB X.data.toList = (decide (a = 47 ∧ b = 110) && !decide (c.toNat < 48) && !decide (54 < c.toNat) && decide (d = 45)) by rw [habcd]; rfl))
      have HK := Lib.hid (show (pre10 (47 :: s.data.toList)).getD 2 0 = c by rw [← HP.out, ← HXD.out, habcd]; rfl)
      have h4' : ((X.size : Int) == 4) = true := by rw [beq_iff_eq]; omega
      have hcu : c.toNat < 256 := c.toNat_lt
      clear hd hc hN hp hX hXX hXd hsl habcd hpre
      cases hab : decide (a = 47 ∧ b = 110) with
      | false =>
        have HC := Lib.hid (show candB s.data.toList = false by rw [HF.out, hab]; rfl)
        rw [hab] at hxe
        clear hab
        go_enter Tryd.func59, Tryd.ntmps59
        go_wp2_with fail
        refine C.out.mono ?_
        rintro e w1 ⟨rfl, b1⟩
        have HB := Lib.hid b1
        clear b1 C
        go_wp2_with fail
        exact ret_two (t := 2) (u := 3) (by kernel_rfl) rfl rfl rfl (RCanded.no HC.out HB.out)
      | true =>
        have HF := Lib.hid (show candB s.data.toList = (!decide (c.toNat < 48) && !decide (54 < c.toNat) && decide (d = 45)) by rw [HF.out, hab]; rfl)
        rw [hab] at hxe
        clear hab
        by_cases d3 : d = 45
        rotate_left
        · have HC := Lib.hid (show candB s.data.toList = false by rw [HF.out, decide_eq_false d3]; simp)
          have d3b : ((d.toNat : Int) != 45) = true := by
            rw [bne_iff_ne]; intro e; apply d3
            have : d.toNat = 45 := by omega
            rw [← UInt8.toNat_inj]; exact this
          clear d3
          go_enter Tryd.func59, Tryd.ntmps59
          go_wp2_with fail
          refine C.out.mono ?_
          rintro e w1 ⟨rfl, b1⟩
          have HB := Lib.hid b1
          clear b1 C
          go_wp2_with fail
          exact ret_two (t := 2) (u := 3) (by kernel_rfl) rfl rfl rfl (RCanded.no HC.out HB.out)
        · by_cases d1 : c.toNat < 48
          · have HC := Lib.hid (show candB s.data.toList = false by rw [HF.out, decide_eq_true d1]; rfl)
            have d1b : decide ((c.toNat : Int) < 48) = true := by rw [decide_eq_true_iff]; omega
            subst d3
            clear d1
            go_enter Tryd.func59, Tryd.ntmps59
            go_wp2_with fail
            refine C.out.mono ?_
            rintro e w1 ⟨rfl, b1⟩
            have HB := Lib.hid b1
            clear b1 C
            go_wp2_with fail
            exact ret_two (t := 2) (u := 3) (by kernel_rfl) rfl rfl rfl (RCanded.no HC.out HB.out)
          · have d1b : decide ((c.toNat : Int) < 48) = false := by rw [decide_eq_false_iff_not]; omega
            by_cases d2 : 54 < c.toNat
            · have HC := Lib.hid (show candB s.data.toList = false by rw [HF.out, decide_eq_true d2]; simp)
              have d2b : decide ((54 : Int) < (c.toNat : Int)) = true := by rw [decide_eq_true_iff]; omega
              subst d3
              clear d1 d2
              go_enter Tryd.func59, Tryd.ntmps59
              go_wp2_with fail
              refine C.out.mono ?_
              rintro e w1 ⟨rfl, b1⟩
              have HB := Lib.hid b1
              clear b1 C
              go_wp2_with fail
              exact ret_two (t := 2) (u := 3) (by kernel_rfl) rfl rfl rfl (RCanded.no HC.out HB.out)
            · have d2b : decide ((54 : Int) < (c.toNat : Int)) = false := by rw [decide_eq_false_iff_not]; omega
              have HC := Lib.hid (show candB s.data.toList = true by rw [HF.out, decide_eq_false d1, decide_eq_false d2, decide_eq_true d3]; rfl)
              subst d3
              have hk0 : (0 : Int) ≤ (c.toNat : Int) - 48 := by omega
              have hk1 : (c.toNat : Int) - 48 ≤ 6 := by omega
              clear d1 d2
              go_enter Tryd.func59, Tryd.ntmps59
              go_wp2_with fail
              refine C.out.mono ?_
              rintro e w1 ⟨rfl, b1⟩
              have HB := Lib.hid b1
              clear b1 C
              go_wp2_with fail
              exact ret_two (t := 2) (u := 3) (by kernel_rfl) rfl rfl rfl (RCanded.yes HC.out (by rw [HK.out]) (by rw [← HP.out]; exact HN.out) HB.out)
end Go.Proofs.YtbkjhogfpcmcbaaDoor
