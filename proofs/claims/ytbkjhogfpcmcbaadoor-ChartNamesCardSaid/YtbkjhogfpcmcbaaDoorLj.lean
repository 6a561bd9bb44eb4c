/- chart: whole, ParseView, ViewText. Conditions: the text has at most 140737488351232 bytes; the table of powers of ten lies in memory. -/
import Derived.Test.YtbkjhogfpcmcbaaDoorLg
import Derived.Test.YtbkjhogfpcmcbaaDoorLf
namespace Go.Proofs.YtbkjhogfpcmcbaaDoor
open Go Go.RowKit Zn
open Go.Lib (decDigits)
set_option linter.unusedVariables false
set_option linter.unusedSimpArgs false
variable {w w' : World}
def Wholed (l : Nm) (w : World) (e : Ending) (w' : World) : Prop := ∃ n : Int, e = .returned (.tuple #[.int .i64 n, .bool (numB l)]) ∧ (numB l = true → n = ((val l : Nat) : Int)) ∧ Below w.heap.size w w'
theorem Wholed.no {l : Nm} {n : Int} (h : numB l = false) (hb : Below w.heap.size w w') : Wholed l w (.returned (.tuple #[.int .i64 n, .bool false])) w' := by
  refine ⟨n, ?_, fun e => ?_, hb⟩
  · rw [h]
  · rw [h] at e; cases e
set_option maxHeartbeats 4000000 in
theorem whole_any (s : ByteArray) (w : World) (hs : s.size ≤ 140737488351232) : Calls Tryd.prog 37 #[.string s] w (Wholed s.data.toList w) := by
  obtain ⟨l, hl⟩ : ∃ l, l = s.data.toList := ⟨_, rfl⟩
  rw [← hl]
  have hll : l.length = s.size := by rw [hl]; exact (Lib.size_eq s).symm
  by_cases h0 : s.size = 0
  · have hln : l = [] := List.length_eq_zero_iff.1 (by omega)
    have he : s.toList.isEmpty = true := by rw [Lib.toList_data, ← hl, hln]; rfl
    have HE := Lib.hid (show numB l = false by rw [hln]; exact num_nil)
    clear hl hll hln h0
    go_enter Tryd.func37, Tryd.ntmps37
    go_wp2_with fail
    exact ret_two rfl rfl (x := .int .i64 0) (y := .bool false) rfl rfl (Wholed.no HE.out (Below.refl _ _))
  have he : s.toList.isEmpty = false := by
    rw [Lib.toList_data, ← hl]
    cases l with
    | nil => simp at hll; omega
    | cons _ _ => rfl
  by_cases h19 : 19 < s.size
  · have HE := Lib.hid (show numB l = false from num_long (by omega))
    clear hl hll h0
    go_enter Tryd.func37, Tryd.ntmps37
    go_wp2_with fail
    exact ret_two rfl rfl (x := .int .i64 0) (y := .bool false) rfl rfl (Wholed.no HE.out (Below.refl _ _))
  have h19d : decide ((19 : Int) < (s.size : Int)) = false := by rw [decide_eq_false_iff_not]; omega
  have hz0 : 0 < s.size := by omega
  obtain ⟨c0, hc0⟩ : ∃ c, c = s[0]'hz0 := ⟨_, rfl⟩
  have hc0' : s[0]'hz0 = c0 := hc0.symm
  have hlc : l[0]? = some c0 := by rw [hl, hc0]; exact at_byte s 0 hz0
  have hlne : l ≠ [] := by rintro rfl; cases hlc
  have HLN := Lib.hid hlne
  have HL := Lib.hid hl
  have HLL := Lib.hid hll
  by_cases h48 : c0 = 48
  · have q48 : ((c0.toNat : Int) == 48) = true := by rw [h48]; rfl
    by_cases h1 : l = [48]
    · have q1 : (s.toList == [48]) = true := by rw [Lib.toList_data, ← hl, h1]; rfl
      have HH := Lib.hid (show l.head? ≠ some 48 ∨ l = [48] from .inr h1)
      clear hl hll hlc hlne hc0 h48 h1
      go_enter Tryd.func37, Tryd.ntmps37
      go_wp2_with fail
      clear q48 hc0'
      go_loopw [4, 6] (fun n _ wr => ∃ pos, pos ≤ s.size ∧ wr = w.iter s pos ∧ n = .int .i64 ((val (l.take pos) : Nat) : Int) ∧ digs (l.take pos) = true ∧ Hid (val (l.take pos) ≤ 4611686018427387909)) (fun _ _ wr => s.size - wr.iterPos w.heap.size)
      case atStart => exact ⟨0, Nat.zero_le _, rfl, rfl, rfl, by show val [] ≤ _; decide⟩
      case round =>
        obtain ⟨pos, hpos, rfl, rfl, hdt, HVT⟩ := hrel
        have HDT := Lib.hid hdt
        have HB1 := Lib.hid (show ∀ k, Below w.heap.size w (w.iter s k) from fun k => (Below.refl _ _).alloc (Nat.le_refl _) _)
        clear hdt
        by_cases hlt : pos < s.size
        · have hb : l[pos]? = some (s[pos]'hlt) := by rw [HL.out]; exact at_byte s pos hlt
          obtain ⟨c, hc⟩ : ∃ c, c = s[pos]'hlt := ⟨_, rfl⟩
          have HNO := Lib.hid (show digC c = false → numB l = false from fun h => num_dig (digs_no hb (by rw [← hc]; exact h)))
          have HN2 := Lib.hid (show val (l.take (pos + 1)) = 10 * val (l.take pos) + (c.toNat - 48) by rw [hc]; exact val_next hb)
          have HBIG := Lib.hid (show 461168601842738790 < val (l.take pos) → numB l = false from fun h => num_big10 hb h)
          have HD2 := Lib.hid (show digC c = true → digs (l.take (pos + 1)) = true from fun h => digs_next hb HDT.out (by rw [← hc]; exact h))
          by_cases ha : (s[pos]'hlt).toNat < 128
          · have hnx : ∀ ty, (Instr.next (.pointer (some ⟨w.heap.size, 0, none⟩)) true ty).run Tryd.prog (w.iter s pos) = _ := fun ty => run_next_ascii w s pos ty hlt ha
            rw [← hc] at hnx ha
            obtain ⟨v, hv⟩ : ∃ v, v = val (l.take pos) := ⟨_, rfl⟩
            rw [← hv] at HN2 HBIG HVT ⊢
            clear hc hb hv
            by_cases d1 : (c.toNat : Int) < 48
            · have HC := Lib.hid (HNO.out (by unfold digC; rw [decide_eq_false (by omega)]; rfl))
              go_wp2_with fail
              exact ret_two rfl rfl (x := .int .i64 0) (y := .bool false) rfl rfl (Wholed.no HC.out (HB1.out _))
            · by_cases d2 : (57 : Int) < (c.toNat : Int)
              · have HC := Lib.hid (HNO.out (by unfold digC; rw [decide_eq_false (by omega : ¬ c.toNat ≤ 57), Bool.and_false]))
                have d1b : decide ((c.toNat : Int) < 48) = false := by rw [decide_eq_false_iff_not]; omega
                have d2b : decide ((57 : Int) < (c.toNat : Int)) = true := by rw [decide_eq_true_iff]; omega
                clear d1 d2
                go_wp2_with fail
                exact ret_two rfl rfl (x := .int .i64 0) (y := .bool false) rfl rfl (Wholed.no HC.out (HB1.out _))
              · have HDD := Lib.hid (HD2.out (by unfold digC; rw [decide_eq_true (by omega), decide_eq_true (by omega)]; rfl))
                have d3 : (48 : Int) ≤ (c.toNat : Int) := by omega
                have d4 : (c.toNat : Int) ≤ 57 := by omega
                have d1b : decide ((c.toNat : Int) < 48) = false := by rw [decide_eq_false_iff_not]; omega
                have d2b : decide ((57 : Int) < (c.toNat : Int)) = false := by rw [decide_eq_false_iff_not]; omega
                clear d1 d2
                by_cases d5 : 461168601842738790 < v
                · have HC := Lib.hid (HBIG.out d5)
                  have d5b : decide ((461168601842738790 : Int) < (v : Int)) = true := by rw [decide_eq_true_iff]; omega
                  clear d5
                  go_wp2_with fail
                  exact ret_two rfl rfl (x := .int .i64 0) (y := .bool false) rfl rfl (Wholed.no HC.out (HB1.out _))
                · have d5b : decide ((461168601842738790 : Int) < (v : Int)) = false := by rw [decide_eq_false_iff_not]; omega
                  have hw1 : IntKind.i64.wrap (10 * (v : Int)) = 10 * (v : Int) := by rw [IntKind.wrap_i64]; omega
                  have hw2 : IntKind.i64.wrap (10 * (v : Int) + ((c.toNat : Int) - 48)) = 10 * (v : Int) + ((c.toNat : Int) - 48) := by rw [IntKind.wrap_i64]; omega
                  have HV2 := Lib.hid (show 10 * v + (c.toNat - 48) ≤ 4611686018427387909 by omega)
                  have HVZ := Lib.hid (show ((10 * v + (c.toNat - 48) : Nat) : Int) = 10 * (v : Int) + ((c.toNat : Int) - 48) by omega)
                  clear d5
                  go_wp2_with fail
                  go_roundw
                  case rel => exact ⟨pos + 1, by omega, rfl, by rw [HN2.out, HVZ.out], HDD.out, by rw [HN2.out]; exact HV2⟩
                  case measure => simp; omega
          · have hnx : ∀ ty, (Instr.next (.pointer (some ⟨w.heap.size, 0, none⟩)) true ty).run Tryd.prog (w.iter s pos) = _ := fun ty => run_next_any w s pos ty hlt
            have hd := (decode_high s pos hlt (by omega)).1
            obtain ⟨d, hde⟩ : ∃ d, d = Utf8.decode s pos := ⟨_, rfl⟩
            rw [← hde] at hnx hd
            have HC := Lib.hid (HNO.out (by unfold digC; rw [hc, decide_eq_false (by omega : ¬ (s[pos]'hlt).toNat ≤ 57), Bool.and_false]))
            have d1b : decide ((d.1 : Int) < 48) = false := by rw [decide_eq_false_iff_not]; omega
            have d2b : decide ((57 : Int) < (d.1 : Int)) = true := by rw [decide_eq_true_iff]; omega
            obtain ⟨v, hv⟩ : ∃ v, v = val (l.take pos) := ⟨_, rfl⟩
            rw [← hv]
            clear hde hd ha hc hb hv
            go_wp2_with fail
            exact ret_two rfl rfl (x := .int .i64 0) (y := .bool false) rfl rfl (Wholed.no HC.out (HB1.out _))
        · obtain rfl : pos = s.size := by omega
          have hlq : ¬ s.size < s.size := by omega
          have hnx : ∀ ty, (Instr.next (.pointer (some ⟨w.heap.size, 0, none⟩)) true ty).run Tryd.prog (w.iter s s.size) = _ := fun ty => run_next_end w s s.size ty hlq
          have htk : l.take s.size = l := List.take_of_length_le (by rw [HLL.out]; exact Nat.le_refl _)
          have hF := num_fin (by have := HDT.out; rwa [htk] at this) HLN.out HH.out
          rw [htk]
          have HVL := Lib.hid (show val (l.take s.size) = val l by rw [htk])
          obtain ⟨v, hv⟩ : ∃ v, v = val l := ⟨_, rfl⟩
          have HV := Lib.hid hv
          rw [← hv] at hF ⊢
          clear htk hv hlq
          cases hb : numB l with
          | false =>
            rw [hb] at hF
            have d6 : decide ((v : Int) ≤ 4611686018427387904) = false := by
              rw [decide_eq_false_iff_not]; have := of_decide_eq_false hF.symm; omega
            have HC := Lib.hid hb
            clear hF hb
            go_wp2_with fail
            exact ret_two rfl rfl (x := .int .i64 v) (y := .bool false) rfl rfl (Wholed.no HC.out (HB1.out _))
          | true =>
            rw [hb] at hF
            have d6 : decide ((v : Int) ≤ 4611686018427387904) = true := by
              rw [decide_eq_true_iff]; have := of_decide_eq_true hF.symm; omega
            have HC := Lib.hid hb
            clear hF hb
            go_wp2_with fail
            exact ret_two rfl rfl (x := .int .i64 v) (y := .bool true) rfl rfl ⟨(v : Int), by rw [HC.out], fun _ => by rw [HV.out], HB1.out _⟩
    · have q1 : (s.toList == [48]) = false := by rw [Lib.toList_data, ← hl]; simpa using h1
      have HE := Lib.hid (show numB l = false by
        cases l with
        | nil => cases hlc
        | cons x t =>
          obtain rfl : x = c0 := by simpa using hlc
          subst h48
          exact num_lead (by rintro rfl; exact h1 rfl))
      clear hl hll hlc hlne hc0 h48 h1
      go_enter Tryd.func37, Tryd.ntmps37
      go_wp2_with fail
      exact ret_two rfl rfl (x := .int .i64 0) (y := .bool false) rfl rfl (Wholed.no HE.out (Below.refl _ _))
  · have q48 : ((c0.toNat : Int) == 48) = false := by
      rw [beq_eq_false_iff_ne]
      intro e
      exact h48 (UInt8.toNat_inj.1 (by show c0.toNat = 48; omega))
    have HH := Lib.hid (show l.head? ≠ some 48 ∨ l = [48] from .inl (by rw [List.head?_eq_getElem?, hlc]; simpa using h48))
    clear hl hll hlc hlne hc0 h48
    go_enter Tryd.func37, Tryd.ntmps37
    go_wp2_with fail
    clear q48 hc0'
    go_loopw [4, 6] (fun n _ wr => ∃ pos, pos ≤ s.size ∧ wr = w.iter s pos ∧ n = .int .i64 ((val (l.take pos) : Nat) : Int) ∧ digs (l.take pos) = true ∧ Hid (val (l.take pos) ≤ 4611686018427387909)) (fun _ _ wr => s.size - wr.iterPos w.heap.size)
    case atStart => exact ⟨0, Nat.zero_le _, rfl, rfl, rfl, by show val [] ≤ _; decide⟩
    case round =>
      obtain ⟨pos, hpos, rfl, rfl, hdt, HVT⟩ := hrel
      have HDT := Lib.hid hdt
      have HB1 := Lib.hid (show ∀ k, Below w.heap.size w (w.iter s k) from fun k => (Below.refl _ _).alloc (Nat.le_refl _) _)
      clear hdt
      by_cases hlt : pos < s.size
      · have hb : l[pos]? = some (s[pos]'hlt) := by rw [HL.out]; exact at_byte s pos hlt
        obtain ⟨c, hc⟩ : ∃ c, c = s[pos]'hlt := ⟨_, rfl⟩
        have HNO := Lib.hid (show digC c = false → numB l = false from fun h => num_dig (digs_no hb (by rw [← hc]; exact h)))
        have HN2 := Lib.hid (show val (l.take (pos + 1)) = 10 * val (l.take pos) + (c.toNat - 48) by rw [hc]; exact val_next hb)
        have HBIG := Lib.hid (show 461168601842738790 < val (l.take pos) → numB l = false from fun h => num_big10 hb h)
        have HD2 := Lib.hid (show digC c = true → digs (l.take (pos + 1)) = true from fun h => digs_next hb HDT.out (by rw [← hc]; exact h))
        by_cases ha : (s[pos]'hlt).toNat < 128
        · have hnx : ∀ ty, (Instr.next (.pointer (some ⟨w.heap.size, 0, none⟩)) true ty).run Tryd.prog (w.iter s pos) = _ := fun ty => run_next_ascii w s pos ty hlt ha
          rw [← hc] at hnx ha
          obtain ⟨v, hv⟩ : ∃ v, v = val (l.take pos) := ⟨_, rfl⟩
          rw [← hv] at HN2 HBIG HVT ⊢
          clear hc hb hv
          by_cases d1 : (c.toNat : Int) < 48
          · have HC := Lib.hid (HNO.out (by unfold digC; rw [decide_eq_false (by omega)]; rfl))
            go_wp2_with fail
            exact ret_two rfl rfl (x := .int .i64 0) (y := .bool false) rfl rfl (Wholed.no HC.out (HB1.out _))
          · by_cases d2 : (57 : Int) < (c.toNat : Int)
            · have HC := Lib.hid (HNO.out (by unfold digC; rw [decide_eq_false (by omega : ¬ c.toNat ≤ 57), Bool.and_false]))
              have d1b : decide ((c.toNat : Int) < 48) = false := by rw [decide_eq_false_iff_not]; omega
              have d2b : decide ((57 : Int) < (c.toNat : Int)) = true := by rw [decide_eq_true_iff]; omega
              clear d1 d2
              go_wp2_with fail
              exact ret_two rfl rfl (x := .int .i64 0) (y := .bool false) rfl rfl (Wholed.no HC.out (HB1.out _))
            · have HDD := Lib.hid (HD2.out (by unfold digC; rw [decide_eq_true (by omega), decide_eq_true (by omega)]; rfl))
              have d3 : (48 : Int) ≤ (c.toNat : Int) := by omega
              have d4 : (c.toNat : Int) ≤ 57 := by omega
              have d1b : decide ((c.toNat : Int) < 48) = false := by rw [decide_eq_false_iff_not]; omega
              have d2b : decide ((57 : Int) < (c.toNat : Int)) = false := by rw [decide_eq_false_iff_not]; omega
              clear d1 d2
              by_cases d5 : 461168601842738790 < v
              · have HC := Lib.hid (HBIG.out d5)
                have d5b : decide ((461168601842738790 : Int) < (v : Int)) = true := by rw [decide_eq_true_iff]; omega
                clear d5
                go_wp2_with fail
                exact ret_two rfl rfl (x := .int .i64 0) (y := .bool false) rfl rfl (Wholed.no HC.out (HB1.out _))
              · have d5b : decide ((461168601842738790 : Int) < (v : Int)) = false := by rw [decide_eq_false_iff_not]; omega
                have hw1 : IntKind.i64.wrap (10 * (v : Int)) = 10 * (v : Int) := by rw [IntKind.wrap_i64]; omega
                have hw2 : IntKind.i64.wrap (10 * (v : Int) + ((c.toNat : Int) - 48)) = 10 * (v : Int) + ((c.toNat : Int) - 48) := by rw [IntKind.wrap_i64]; omega
                have HV2 := Lib.hid (show 10 * v + (c.toNat - 48) ≤ 4611686018427387909 by omega)
                have HVZ := Lib.hid (show ((10 * v + (c.toNat - 48) : Nat) : Int) = 10 * (v : Int) + ((c.toNat : Int) - 48) by omega)
                clear d5
                go_wp2_with fail
                go_roundw
                case rel => exact ⟨pos + 1, by omega, rfl, by rw [HN2.out, HVZ.out], HDD.out, by rw [HN2.out]; exact HV2⟩
                case measure => simp; omega
        · have hnx : ∀ ty, (Instr.next (.pointer (some ⟨w.heap.size, 0, none⟩)) true ty).run Tryd.prog (w.iter s pos) = _ := fun ty => run_next_any w s pos ty hlt
          have hd := (decode_high s pos hlt (by omega)).1
          obtain ⟨d, hde⟩ : ∃ d, d = Utf8.decode s pos := ⟨_, rfl⟩
          rw [← hde] at hnx hd
          have HC := Lib.hid (HNO.out (by unfold digC; rw [hc, decide_eq_false (by omega : ¬ (s[pos]'hlt).toNat ≤ 57), Bool.and_false]))
          have d1b : decide ((d.1 : Int) < 48) = false := by rw [decide_eq_false_iff_not]; omega
          have d2b : decide ((57 : Int) < (d.1 : Int)) = true := by rw [decide_eq_true_iff]; omega
          obtain ⟨v, hv⟩ : ∃ v, v = val (l.take pos) := ⟨_, rfl⟩
          rw [← hv]
          clear hde hd ha hc hb hv
          go_wp2_with fail
          exact ret_two rfl rfl (x := .int .i64 0) (y := .bool false) rfl rfl (Wholed.no HC.out (HB1.out _))
      · obtain rfl : pos = s.size := by omega
        have hlq : ¬ s.size < s.size := by omega
        have hnx : ∀ ty, (Instr.next (.pointer (some ⟨w.heap.size, 0, none⟩)) true ty).run Tryd.prog (w.iter s s.size) = _ := fun ty => run_next_end w s s.size ty hlq
        have htk : l.take s.size = l := List.take_of_length_le (by rw [HLL.out]; exact Nat.le_refl _)
        have hF := num_fin (by have := HDT.out; rwa [htk] at this) HLN.out HH.out
        rw [htk]
        have HVL := Lib.hid (show val (l.take s.size) = val l by rw [htk])
        obtain ⟨v, hv⟩ : ∃ v, v = val l := ⟨_, rfl⟩
        have HV := Lib.hid hv
        rw [← hv] at hF ⊢
        clear htk hv hlq
        cases hb : numB l with
        | false =>
          rw [hb] at hF
          have d6 : decide ((v : Int) ≤ 4611686018427387904) = false := by
            rw [decide_eq_false_iff_not]; have := of_decide_eq_false hF.symm; omega
          have HC := Lib.hid hb
          clear hF hb
          go_wp2_with fail
          exact ret_two rfl rfl (x := .int .i64 v) (y := .bool false) rfl rfl (Wholed.no HC.out (HB1.out _))
        | true =>
          rw [hb] at hF
          have d6 : decide ((v : Int) ≤ 4611686018427387904) = true := by
            rw [decide_eq_true_iff]; have := of_decide_eq_true hF.symm; omega
          have HC := Lib.hid hb
          clear hF hb
          go_wp2_with fail
          exact ret_two rfl rfl (x := .int .i64 v) (y := .bool true) rfl rfl ⟨(v : Int), by rw [HC.out], fun _ => by rw [HV.out], HB1.out _⟩
theorem parse_any (s : ByteArray) (w : World) (hs : s.size ≤ 140737488351232) : Calls Tryd.prog 34 #[.string s] w fun e w' => e = .returned (.tuple #[.int .i64 (num0 s.data.toList), .bool (numB s.data.toList)]) ∧ Below w.heap.size w w' := by
  have C := whole_any s w hs
  obtain ⟨l, hl⟩ : ∃ l, l = s.data.toList := ⟨_, rfl⟩
  rw [← hl] at C ⊢
  unfold Wholed at C
  unfold num0
  clear hl
  cases hb : numB l with
  | false =>
    rw [hb] at C
    have C := Lib.hid C
    clear hb
    go_enter Tryd.func34, Tryd.ntmps34
    go_wp2_with fail
    refine C.out.mono ?_
    rintro e w1 ⟨n, rfl, _, b1⟩
    have HB := Lib.hid b1
    clear b1 C
    go_wp2_with fail
    exact ret_two rfl rfl (x := .int .i64 0) (y := .bool false) rfl rfl ⟨rfl, HB.out⟩
  | true =>
    rw [hb] at C
    have C := Lib.hid C
    clear hb
    go_enter Tryd.func34, Tryd.ntmps34
    go_wp2_with fail
    refine C.out.mono ?_
    rintro e w1 ⟨n, rfl, hn, b1⟩
    have HB := Lib.hid b1
    have HN := Lib.hid (hn (by first | rfl | trivial))
    clear b1 C hn
    go_wp2_with fail
    exact ret_two rfl rfl (x := .int .i64 n) (y := .bool true) rfl rfl ⟨by rw [HN.out], HB.out⟩
theorem below_rows (w : World) (k : Nat) (os : Array Obj) : Below w.heap.size w (Go.Sort.grow (w.drewN k) os) :=
  ⟨rfl, rfl, rfl, by show w.heap.size ≤ (w.heap ++ os).size; rw [Array.size_append]; omega, fun j hj => by show (w.heap ++ os)[j]? = _; exact Array.getElem?_append_left hj⟩
theorem itoa_nat (n : Nat) (h : n ≤ 4611686018427387904) (w : World) (ht : Tb w) : Calls Tryd.prog 39 #[.int .i64 n] w fun e w' => e = .returned (.string ⟨(decDigits n).toArray⟩) ∧ Below w.heap.size w w' :=
  (Tryd.strconv_Itoa n (by omega) (by omega) w ht).mono fun e w' ⟨he, k, os, hw⟩ => ⟨by rw [he]; unfold Lib.itoa; rw [if_neg (by omega), Int.toNat_natCast], by rw [hw]; exact below_rows _ _ _⟩
theorem viewtext_no (v : Int) (w : World) (h : v < 0 ∨ 4611686018427387904 < v) : Calls Tryd.prog 33 #[.int .i64 v] w fun e w' => e = .returned (.tuple #[.string ⟨#[]⟩, .bool false]) ∧ Below w.heap.size w w' := by
  by_cases h1 : v < 0
  · clear h
    go_enter Tryd.func33, Tryd.ntmps33
    go_wp2_with fail
    exact ret_two rfl rfl (x := .string ⟨#[]⟩) (y := .bool false) rfl rfl ⟨rfl, Below.refl _ _⟩
  · have d1 : decide (v < 0) = false := by rw [decide_eq_false_iff_not]; omega
    have d2 : decide (4611686018427387904 < v) = true := by rw [decide_eq_true_iff]; omega
    clear h h1
    go_enter Tryd.func33, Tryd.ntmps33
    go_wp2_with fail
    exact ret_two rfl rfl (x := .string ⟨#[]⟩) (y := .bool false) rfl rfl ⟨rfl, Below.refl _ _⟩
theorem viewtext_yes (n : Nat) (w : World) (h : n ≤ 4611686018427387904) (ht : Tb w) : Calls Tryd.prog 33 #[.int .i64 n] w fun e w' => e = .returned (.tuple #[.string ⟨(decDigits n).toArray⟩, .bool true]) ∧ Below w.heap.size w w' := by
  have C := Lib.hid (itoa_nat n h w ht)
  have d1 : decide ((n : Int) < 0) = false := by rw [decide_eq_false_iff_not]; omega
  have d2 : decide ((4611686018427387904 : Int) < (n : Int)) = false := by rw [decide_eq_false_iff_not]; omega
  obtain ⟨T, hT⟩ : ∃ T : ByteArray, T = ⟨(decDigits n).toArray⟩ := ⟨_, rfl⟩
  rw [← hT] at C ⊢
  clear h ht hT
  go_enter Tryd.func33, Tryd.ntmps33
  go_wp2_with fail
  refine C.out.mono ?_
  rintro e w1 ⟨rfl, b1⟩
  have HB := Lib.hid b1
  clear b1 C
  go_wp2_with fail
  exact ret_two rfl rfl (x := .string T) (y := .bool true) rfl rfl ⟨rfl, HB.out⟩
end Go.Proofs.YtbkjhogfpcmcbaaDoor
