/- chart: zname.Cut of any text. Conditions: the text has at most 4194304 bytes; the library's variable holds a number. -/
import Derived.Test.YtbkjhogfpcmcbaaDoorKc
import Derived.Test.YtbkjhogfpcmcbaaDoorKb
namespace Go.Proofs.YtbkjhogfpcmcbaaDoor
open Go Go.RowKit Zn
set_option linter.unusedVariables false
set_option linter.unusedSimpArgs false
variable {w w' : World}
def digC (c : UInt8) : Bool := decide (48 ≤ c.toNat) && decide (c.toNat ≤ 57)
def digs (l : Nm) : Bool := l.all digC
def pre10 (p : Nm) : Nm := p.take (p.length - 10)
def suf10 (p : Nm) : Nm := p.drop (p.length - 10)
def tailB (p : Nm) : Bool := !decide (pre10 p = [47]) && validZ (pre10 p) && validZ p
/-- does a text end in a number, behind a path? -/
def cutB (p : Nm) : Bool := decide (10 ≤ p.length) && digs (suf10 p) && tailB p
def cutP (p : Nm) : Nm := if cutB p then pre10 p else []
def cutN (p : Nm) : Int := if cutB p then ((val (suf10 p) : Nat) : Int) else 0
def Cutted (w : World) (p : Nm) (e : Ending) (w' : World) : Prop := e = .returned (.tuple #[.string ⟨(cutP p).toArray⟩, .int .i64 (cutN p), .bool (cutB p)]) ∧ Below w.heap.size w w'
theorem Cutted.no {p : Nm} (h : cutB p = false) (hb : Below w.heap.size w w') : Cutted w p (.returned (.tuple #[.string ⟨#[]⟩, .int .i64 0, .bool false])) w' := by
  refine ⟨?_, hb⟩
  unfold cutP cutN
  rw [h]; rfl
theorem Cutted.yes {p : Nm} {x : ByteArray} {n : Nat} (h : cutB p = true) (hx : x.data.toList = pre10 p) (hn : n = val (suf10 p)) (hb : Below w.heap.size w w') : Cutted w p (.returned (.tuple #[.string x, .int .i64 (n : Nat), .bool true])) w' := by
  refine ⟨?_, hb⟩
  unfold cutP cutN
  rw [h, if_pos rfl, if_pos rfl, ← hx, hn]
theorem digs_snoc (l : Nm) (c : UInt8) : digs (l ++ [c]) = (digs l && digC c) := by simp [digs]
theorem digs_no {l : Nm} {k : Nat} {c : UInt8} (hk : l[k]? = some c) (h : digC c = false) : digs l = false := by
  unfold digs
  rw [List.all_eq_false]
  exact ⟨c, List.mem_of_getElem? hk, by rw [h]; decide⟩
theorem digs_val {l : Nm} (h : digs l = true) : ∀ c ∈ l, c.toNat ≤ 57 := by
  intro c hc
  have := List.all_eq_true.1 h c hc
  unfold digC at this
  simp at this
  exact this.2
theorem cut_short {p : Nm} (h : p.length < 10) : cutB p = false := by unfold cutB; rw [decide_eq_false (by omega)]; rfl
set_option maxHeartbeats 2000000 in
theorem zcut_any (s : ByteArray) (w : World) (hs : s.size ≤ 4194304) (hm : Mx w) : Calls Tryd.prog 72 #[.string s] w (Cutted w s.data.toList) := by
  obtain ⟨p, hp⟩ : ∃ p, p = s.data.toList := ⟨_, rfl⟩
  rw [← hp]
  have hpl : p.length = s.size := by rw [hp]; exact (Lib.size_eq s).symm
  by_cases h10 : s.size < 10
  · have HE := Lib.hid (cut_short (p := p) (by omega))
    have hN0 : decide ((s.size : Int) - 10 < 0) = true := by rw [decide_eq_true_iff]; omega
    clear hm hp hpl
    go_enter Tryd.func72, Tryd.ntmps72
    go_wp2_with fail
    exact ret_three (t := 2) (u := 3) (v := 4) (by kernel_rfl) rfl rfl rfl rfl (Cutted.no HE.out (Below.refl _ _))
  obtain ⟨N, hN⟩ : ∃ N, s.size = N + 10 := ⟨s.size - 10, by omega⟩
  have HM := Lib.hid hm
  have hsz : (s.size : Int) = (N : Int) + 10 := by omega
  have hN0 : decide ((N : Int) < 0) = false := by rw [decide_eq_false_iff_not]; omega
  obtain ⟨T, hT⟩ : ∃ T, T = suf10 p := ⟨_, rfl⟩
  have hp10 : p.length - 10 = N := by omega
  have hTL : T.length = 10 := by rw [hT, suf10, List.length_drop]; omega
  have HQ := Lib.hid (show (s.extract N (N + 10)).data.toList = T by
    rw [Lib.extract_data, ← hp, hT, suf10, hp10, Nat.add_sub_cancel_left, List.take_of_length_le (by rw [List.length_drop]; omega)])
  have HQ0 := Lib.hid (show (s.extract 0 N).data.toList = pre10 p by
    rw [Lib.extract_data, ← hp, List.drop_zero, Nat.sub_zero, pre10, hp10])
  have HTL := Lib.hid hTL
  have HCB := Lib.hid (show cutB p = (digs T && tailB p) by unfold cutB; rw [decide_eq_true (by omega), Bool.true_and, hT])
  have HT := Lib.hid hT
  have CL := fun w1 (h : Mx w1) => valid_any (s.extract 0 N) w1 (by rw [Lib.size_eq, HQ0.out, pre10, List.length_take]; omega) h
  rw [HQ0.out] at CL
  have CP := fun w1 (h : Mx w1) => valid_any s w1 hs h
  rw [← hp] at CP
  have CL := Lib.hid CL
  have CP := Lib.hid CP
  have hNl : N ≤ 4194304 := by omega
  obtain ⟨v1, hv1⟩ : ∃ b, b = validZ (pre10 p) := ⟨_, rfl⟩
  obtain ⟨v2, hv2⟩ : ∃ b, b = validZ p := ⟨_, rfl⟩
  rw [← hv1] at CL
  rw [← hv2] at CP
  have HTB := Lib.hid (show tailB p = (!decide (pre10 p = [47]) && v1 && v2) by unfold tailB; rw [hv1, hv2])
  have HEQ := Lib.hid (show ((s.extract 0 N).toList == [47]) = decide (pre10 p = [47]) by rw [Lib.toList_data, HQ0.out]; exact Bool.eq_iff_iff.2 (by simp))
  clear hm hp hpl hp10 hT hTL h10 hv1 hv2
  go_enter Tryd.func72, Tryd.ntmps72
  go_wp2_with fail
  obtain ⟨q, hq⟩ : ∃ q, q = s.extract N (N + 10) := ⟨_, rfl⟩
  rw [← hq] at HQ ⊢
  have hqs : q.size = 10 := by rw [Lib.size_eq, HQ.out, HTL.out]
  have HQS := Lib.hid hqs
  clear hq hqs
  go_loopw [6, 8] (fun n _ wr => ∃ pos, pos ≤ 10 ∧ wr = w.iter q pos ∧ n = .int .i64 ((val (T.take pos) : Nat) : Int) ∧ digs (T.take pos) = true) (fun _ _ wr => 10 - wr.iterPos w.heap.size)
  case atStart => exact ⟨0, by omega, rfl, rfl, rfl⟩
  case round =>
    obtain ⟨pos, hpos, rfl, rfl, hdt⟩ := hrel
    have HDT := Lib.hid hdt
    have HB0 := Lib.hid (show Below w.heap.size w (w.iter q pos) from (Below.refl _ _).alloc (Nat.le_refl _) _)
    clear hdt
    by_cases hlt : pos < 10
    · have hlq : pos < q.size := by rw [HQS.out]; exact hlt
      have hb := at_byte q pos hlq
      rw [HQ.out] at hb
      have hvb : val (T.take pos) ≤ 9999999999 := by
        have h5 := val_bound (T.take pos) (digs_val HDT.out)
        have h6 : (T.take pos).length ≤ 10 := by rw [List.length_take]; omega
        have h7 : 10 ^ (T.take pos).length ≤ 10 ^ 10 := Nat.pow_le_pow_right (by omega) h6
        omega
      have HB := Lib.hid hb
      obtain ⟨c, hc⟩ : ∃ c, c = q[pos]'hlq := ⟨_, rfl⟩
      have HNO := Lib.hid (show digC c = false → cutB p = false from fun h => by rw [HCB.out, digs_no HB.out (by rw [← hc]; exact h)]; rfl)
      have HN2 := Lib.hid (show val (T.take (pos + 1)) = 10 * val (T.take pos) + (c.toNat - 48) by rw [List.take_add_one, hb, hc]; exact val_snoc _ _)
      have HD2 := Lib.hid (show digC c = true → digs (T.take (pos + 1)) = true from fun h => by rw [List.take_add_one, hb, ← hc]; exact (digs_snoc _ _).trans (by rw [HDT.out, h]; rfl))
      have HB1 := Lib.hid (show ∀ k, Below w.heap.size w (w.iter q k) from fun k => (Below.refl _ _).alloc (Nat.le_refl _) _)
      by_cases ha : (q[pos]'hlq).toNat < 128
      · have hnx : ∀ ty, (Instr.next (.pointer (some ⟨w.heap.size, 0, none⟩)) true ty).run Tryd.prog (w.iter q pos) = _ := fun ty => run_next_ascii w q pos ty hlq ha
        rw [← hc] at hnx ha
        obtain ⟨v, hv⟩ : ∃ v, v = val (T.take pos) := ⟨_, rfl⟩
        rw [← hv] at HN2 hvb ⊢
        clear hc hb hv
        by_cases d1 : (c.toNat : Int) < 48
        · have HC := Lib.hid (HNO.out (by unfold digC; rw [decide_eq_false (by omega)]; rfl))
          go_wp2_with fail
          exact ret_three (t := 2) (u := 3) (v := 4) (by kernel_rfl) rfl rfl rfl rfl (Cutted.no HC.out (HB1.out _))
        · by_cases d2 : (57 : Int) < (c.toNat : Int)
          · have HC := Lib.hid (HNO.out (by unfold digC; rw [decide_eq_false (by omega : ¬ c.toNat ≤ 57), Bool.and_false]))
            have d1b : decide ((c.toNat : Int) < 48) = false := by rw [decide_eq_false_iff_not]; omega
            have d2b : decide ((57 : Int) < (c.toNat : Int)) = true := by rw [decide_eq_true_iff]; omega
            clear d1 d2
            go_wp2_with fail
            exact ret_three (t := 2) (u := 3) (v := 4) (by kernel_rfl) rfl rfl rfl rfl (Cutted.no HC.out (HB1.out _))
          · have HDD := Lib.hid (HD2.out (by unfold digC; rw [decide_eq_true (by omega), decide_eq_true (by omega)]; rfl))
            have d3 : (48 : Int) ≤ (c.toNat : Int) := by omega
            have d4 : (c.toNat : Int) ≤ 57 := by omega
            have d1b : decide ((c.toNat : Int) < 48) = false := by rw [decide_eq_false_iff_not]; omega
            have d2b : decide ((57 : Int) < (c.toNat : Int)) = false := by rw [decide_eq_false_iff_not]; omega
            clear d1 d2
            go_wp2_with fail
            go_roundw
            case rel => exact ⟨pos + 1, by omega, rfl, by rw [HN2.out]; congr 1; omega, HDD.out⟩
            case measure => simp; omega
      · have hnx : ∀ ty, (Instr.next (.pointer (some ⟨w.heap.size, 0, none⟩)) true ty).run Tryd.prog (w.iter q pos) = _ := fun ty => run_next_any w q pos ty hlq
        have hd := (decode_high q pos hlq (by omega)).1
        obtain ⟨d, hde⟩ : ∃ d, d = Utf8.decode q pos := ⟨_, rfl⟩
        rw [← hde] at hnx hd
        have HC := Lib.hid (HNO.out (by unfold digC; rw [hc, decide_eq_false (by omega : ¬ (q[pos]'hlq).toNat ≤ 57), Bool.and_false]))
        have d1b : decide ((d.1 : Int) < 48) = false := by rw [decide_eq_false_iff_not]; omega
        have d2b : decide ((57 : Int) < (d.1 : Int)) = true := by rw [decide_eq_true_iff]; omega
        obtain ⟨v, hv⟩ : ∃ v, v = val (T.take pos) := ⟨_, rfl⟩
        rw [← hv] at hvb ⊢
        clear hde hd ha hc hb hv
        go_wp2_with fail
        exact ret_three (t := 2) (u := 3) (v := 4) (by kernel_rfl) rfl rfl rfl rfl (Cutted.no HC.out (HB1.out _))
    · obtain rfl : pos = 10 := by omega
      have hlq : ¬ 10 < q.size := by rw [HQS.out]; omega
      have hnx : ∀ ty, (Instr.next (.pointer (some ⟨w.heap.size, 0, none⟩)) true ty).run Tryd.prog (w.iter q 10) = _ := fun ty => run_next_end w q 10 ty hlq
      have htk : T.take 10 = T := List.take_of_length_le (by rw [HTL.out]; exact Nat.le_refl _)
      have HE := Lib.hid (show val (T.take 10) = val (suf10 p) by rw [htk, HT.out])
      have HC := Lib.hid (show cutB p = (!decide (pre10 p = [47]) && v1 && v2) by have := HDT.out; rw [htk] at this; rw [HCB.out, this, Bool.true_and, HTB.out])
      obtain ⟨v, hv⟩ : ∃ v, v = val (T.take 10) := ⟨_, rfl⟩
      rw [← hv] at HE ⊢
      clear hv hlq htk
      cases h47 : decide (pre10 p = [47]) with
      | true =>
        have h00 : ((s.extract 0 N).toList == [47]) = true := HEQ.out.trans h47
        have HC := Lib.hid (show cutB p = false by rw [HC.out, h47]; rfl)
        clear h47
        go_wp2_with fail
        exact ret_three (t := 2) (u := 3) (v := 4) (by kernel_rfl) rfl rfl rfl rfl (Cutted.no HC.out HB0.out)
      | false =>
        have h00 : ((s.extract 0 N).toList == [47]) = false := HEQ.out.trans h47
        have HC := Lib.hid (show cutB p = (v1 && v2) by rw [HC.out, h47]; rfl)
        clear h47
        cases v1 with
        | false =>
          go_wp2_with fail
          refine (CL.out _ (HM.out.below HB0.out)).mono ?_
          rintro e w1 ⟨rfl, b1⟩
          have B1 := Lib.hid (HB0.out.trans (b1.mono HB0.out.size))
          clear b1
          go_wp2_with fail
          exact ret_three (t := 2) (u := 3) (v := 4) (by kernel_rfl) rfl rfl rfl rfl (Cutted.no HC.out B1.out)
        | true =>
          cases v2 with
          | false =>
            go_wp2_with fail
            refine (CL.out _ (HM.out.below HB0.out)).mono ?_
            rintro e w1 ⟨rfl, b1⟩
            have B1 := Lib.hid (HB0.out.trans (b1.mono HB0.out.size))
            clear b1
            go_wp2_with fail
            refine (CP.out _ (HM.out.below B1.out)).mono ?_
            rintro e w2 ⟨rfl, b2⟩
            have B2 := Lib.hid (B1.out.trans (b2.mono B1.out.size))
            clear b2
            go_wp2_with fail
            exact ret_three (t := 2) (u := 3) (v := 4) (by kernel_rfl) rfl rfl rfl rfl (Cutted.no HC.out B2.out)
          | true =>
            go_wp2_with fail
            refine (CL.out _ (HM.out.below HB0.out)).mono ?_
            rintro e w1 ⟨rfl, b1⟩
            have B1 := Lib.hid (HB0.out.trans (b1.mono HB0.out.size))
            clear b1
            go_wp2_with fail
            refine (CP.out _ (HM.out.below B1.out)).mono ?_
            rintro e w2 ⟨rfl, b2⟩
            have B2 := Lib.hid (B1.out.trans (b2.mono B1.out.size))
            clear b2
            go_wp2_with fail
            exact ret_three (t := 2) (u := 3) (v := 4) (by kernel_rfl) rfl rfl rfl rfl (Cutted.yes HC.out HQ0.out HE.out B2.out)
end Go.Proofs.YtbkjhogfpcmcbaaDoor
