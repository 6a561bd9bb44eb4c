/- chart: candidate, Winner. Conditions: the names lie in memory; texts have at most 2000000 bytes. -/
import Derived.Test.YtbkjhogfpcmcbaaDoorKh
namespace Go.Proofs.YtbkjhogfpcmcbaaDoor
open Go Go.RowKit Zn
set_option linter.unusedVariables false
set_option linter.unusedSimpArgs false
variable {w w' : World}
/-- has a text the form of a candidate's? -/
def formB : Nm → Bool
  | [a, b, c, d] => decide (a = 47 ∧ b = 110) && !decide (c.toNat < 48) && !decide (54 < c.toNat) && decide (d = 45)
  | _ => false
def candB (s : Nm) : Bool := cutB (47 :: s) && formB (pre10 (47 :: s))
def candK (s : Nm) : Int := if candB s then (((pre10 (47 :: s)).getD 2 0).toNat : Int) - 48 else 0
def candN (s : Nm) : Int := if candB s then cutN (47 :: s) else 0
def Canded (w : World) (s : Nm) (e : Ending) (w' : World) : Prop := e = .returned (.tuple #[.int .i64 (candK s), .int .i64 (candN s), .bool (candB s)]) ∧ Below w.heap.size w w'
theorem Canded.no {s : Nm} (h : candB s = false) (hb : Below w.heap.size w w') : Canded w s (.returned (.tuple #[.int .i64 0, .int .i64 0, .bool false])) w' := by
  refine ⟨?_, hb⟩
  unfold candK candN
  rw [h]; rfl
theorem Canded.yes {s : Nm} {k n : Int} (h : candB s = true) (hk : k = (((pre10 (47 :: s)).getD 2 0).toNat : Int) - 48) (hn : n = cutN (47 :: s)) (hb : Below w.heap.size w w') : Canded w s (.returned (.tuple #[.int .i64 k, .int .i64 n, .bool true])) w' := by
  refine ⟨?_, hb⟩
  unfold candK candN
  rw [h, if_pos rfl, if_pos rfl, hk, hn]
theorem form_len {l : Nm} (h : ¬ l.length = 4) : formB l = false := by
  unfold formB
  split
  · exact absurd rfl h
  · rfl
set_option maxHeartbeats 1000000 in
theorem cand_any (s : ByteArray) (w : World) (hs : s.size ≤ 4000000) (hm : Mx w) : Calls Tryd.prog 58 #[.string s] w (Canded w s.data.toList) := by
  obtain ⟨p, hp⟩ : ∃ p, p = (47 : UInt8) :: s.data.toList := ⟨_, rfl⟩
  have hd : ((⟨#[47]⟩ : ByteArray) ++ s).data.toList = p := by rw [hp, ByteArray.data_append, Array.toList_append]; rfl
  have C := zcut_any ((⟨#[47]⟩ : ByteArray) ++ s) w (by rw [Lib.size_eq, hd, hp, List.length_cons, ← Lib.size_eq]; omega) hm
  rw [hd] at C
  unfold Cutted at C
  obtain ⟨N, hN⟩ : ∃ N, N = cutN p := ⟨_, rfl⟩
  have HN := Lib.hid hN
  have HP := Lib.hid hp
  rw [← hN] at C
  cases hc : cutB p with
  | false =>
    rw [hc] at C
    have C := Lib.hid C
    have HC := Lib.hid (show candB s.data.toList = false by unfold candB; rw [← HP.out, hc]; rfl)
    clear hm hd hc hN hp
    go_enter Tryd.func58, Tryd.ntmps58
    go_wp2_with fail
    refine C.out.mono ?_
    rintro e w1 ⟨rfl, b1⟩
    have HB := Lib.hid b1
    clear b1 C
    go_wp2_with fail
    exact ret_three (t := 2) (u := 3) (v := 4) (by kernel_rfl) rfl rfl rfl rfl (Canded.no HC.out HB.out)
  | true =>
    rw [hc] at C
    have hX : cutP p = pre10 p := by unfold cutP; rw [hc]; rfl
    rw [hX] at C
    obtain ⟨X, hXX⟩ : ∃ X : ByteArray, X = ⟨(pre10 p).toArray⟩ := ⟨_, rfl⟩
    have hXd : X.data.toList = pre10 p := by rw [hXX]
    rw [← hXX] at C
    have HF := Lib.hid (show candB s.data.toList = formB X.data.toList by unfold candB; rw [← HP.out, hc, hXd]; rfl)
    have HXD := Lib.hid hXd
    have C := Lib.hid C
    have hsl : X.data.toList.length = X.size := (Lib.size_eq X).symm
    by_cases h4 : X.size = 4
    rotate_left
    · have HC := Lib.hid (HF.out.trans (form_len (by rw [hsl]; exact h4)))
      have h4' : ((X.size : Int) != 4) = true := by rw [bne_iff_ne]; omega
      clear hm hd hc hN hp hX hXX hXd hsl h4
      go_enter Tryd.func58, Tryd.ntmps58
      go_wp2_with fail
      refine C.out.mono ?_
      rintro e w1 ⟨rfl, b1⟩
      have HB := Lib.hid b1
      clear b1 C
      go_wp2_with fail
      exact ret_three (t := 2) (u := 3) (v := 4) (by kernel_rfl) rfl rfl rfl rfl (Canded.no HC.out HB.out)
    · obtain ⟨a, b, c, d, habcd⟩ : ∃ a b c d, X.data.toList = [a, b, c, d] := by
        rw [h4] at hsl
        match hh : X.data.toList, hsl with
        | [a, b, c, d], _ => exact ⟨a, b, c, d, rfl⟩
      have i2 : 2 < X.size := by omega
      have i3 : 3 < X.size := by omega
      have e2 : X[2]'i2 = c := by have := at_byte X 2 i2; rw [habcd] at this; simpa using this.symm
      have e3 : X[3]'i3 = d := by have := at_byte X 3 i3; rw [habcd] at this; simpa using this.symm
      have hpre : (X.extract 0 2).data.toList = [a, b] := by rw [Lib.extract_data, habcd]; rfl
      have hxe : ((X.extract 0 2).toList == [47, 110]) = decide (a = 47 ∧ b = 110) := by
        rw [Lib.toList_data, hpre]
        rw [Bool.eq_iff_iff, beq_iff_eq, decide_eq_true_iff]
        simp
      have HF := Lib.hid (HF.out.trans (show formB X.data.toList = (decide (a = 47 ∧ b = 110) && !decide (c.toNat < 48) && !decide (54 < c.toNat) && decide (d = 45)) by rw [habcd]; rfl))
      have HK := Lib.hid (show (pre10 (47 :: s.data.toList)).getD 2 0 = c by rw [← HP.out, ← HXD.out, habcd]; rfl)
      have h4' : ((X.size : Int) == 4) = true := by rw [beq_iff_eq]; omega
      have hcu : c.toNat < 256 := c.toNat_lt
      clear hm hd hc hN hp hX hXX hXd hsl habcd hpre
      cases hab : decide (a = 47 ∧ b = 110) with
      | false =>
        have HC := Lib.hid (show candB s.data.toList = false by rw [HF.out, hab]; rfl)
        rw [hab] at hxe
        clear hab
        go_enter Tryd.func58, Tryd.ntmps58
        go_wp2_with fail
        refine C.out.mono ?_
        rintro e w1 ⟨rfl, b1⟩
        have HB := Lib.hid b1
        clear b1 C
        go_wp2_with fail
        exact ret_three (t := 2) (u := 3) (v := 4) (by kernel_rfl) rfl rfl rfl rfl (Canded.no HC.out HB.out)
      | true =>
        have HF := Lib.hid (show candB s.data.toList = (!decide (c.toNat < 48) && !decide (54 < c.toNat) && decide (d = 45)) by rw [HF.out, hab]; rfl)
        rw [hab] at hxe
        clear hab
        by_cases d1 : c.toNat < 48
        · have HC := Lib.hid (show candB s.data.toList = false by rw [HF.out, decide_eq_true d1]; rfl)
          have d1b : decide ((c.toNat : Int) < 48) = true := by rw [decide_eq_true_iff]; omega
          clear d1
          go_enter Tryd.func58, Tryd.ntmps58
          go_wp2_with fail
          refine C.out.mono ?_
          rintro e w1 ⟨rfl, b1⟩
          have HB := Lib.hid b1
          clear b1 C
          go_wp2_with fail
          exact ret_three (t := 2) (u := 3) (v := 4) (by kernel_rfl) rfl rfl rfl rfl (Canded.no HC.out HB.out)
        · have d1b : decide ((c.toNat : Int) < 48) = false := by rw [decide_eq_false_iff_not]; omega
          by_cases d2 : 54 < c.toNat
          · have HC := Lib.hid (show candB s.data.toList = false by rw [HF.out, decide_eq_true d2]; simp)
            have d2b : decide ((54 : Int) < (c.toNat : Int)) = true := by rw [decide_eq_true_iff]; omega
            clear d1 d2
            go_enter Tryd.func58, Tryd.ntmps58
            go_wp2_with fail
            refine C.out.mono ?_
            rintro e w1 ⟨rfl, b1⟩
            have HB := Lib.hid b1
            clear b1 C
            go_wp2_with fail
            exact ret_three (t := 2) (u := 3) (v := 4) (by kernel_rfl) rfl rfl rfl rfl (Canded.no HC.out HB.out)
          · have d2b : decide ((54 : Int) < (c.toNat : Int)) = false := by rw [decide_eq_false_iff_not]; omega
            by_cases d3 : d = 45
            · have HC := Lib.hid (show candB s.data.toList = true by rw [HF.out, decide_eq_false d1, decide_eq_false d2, decide_eq_true d3]; rfl)
              subst d3
              have hw1 : IntKind.u8.wrap ((c.toNat : Int) - 48) = (c.toNat : Int) - 48 := by rw [IntKind.wrap_u8]; omega
              have hk0 : (0 : Int) ≤ (c.toNat : Int) - 48 := by omega
              have hk1 : (c.toNat : Int) - 48 ≤ 6 := by omega
              clear d1 d2
              go_enter Tryd.func58, Tryd.ntmps58
              go_wp2_with fail
              refine C.out.mono ?_
              rintro e w1 ⟨rfl, b1⟩
              have HB := Lib.hid b1
              clear b1 C
              go_wp2_with fail
              exact ret_three (t := 2) (u := 3) (v := 4) (by kernel_rfl) rfl rfl rfl rfl (Canded.yes HC.out (by rw [HK.out]) (by rw [← HP.out]; exact HN.out) HB.out)
            · have HC := Lib.hid (show candB s.data.toList = false by rw [HF.out, decide_eq_false d3]; simp)
              have d3b : ((d.toNat : Int) != 45) = true := by
                rw [bne_iff_ne]; intro e; apply d3
                have : d.toNat = 45 := by omega
                rw [← UInt8.toNat_inj]; exact this
              clear d1 d2 d3
              go_enter Tryd.func58, Tryd.ntmps58
              go_wp2_with fail
              refine C.out.mono ?_
              rintro e w1 ⟨rfl, b1⟩
              have HB := Lib.hid b1
              clear b1 C
              go_wp2_with fail
              exact ret_three (t := 2) (u := 3) (v := 4) (by kernel_rfl) rfl rfl rfl rfl (Canded.no HC.out HB.out)
end Go.Proofs.YtbkjhogfpcmcbaaDoor
