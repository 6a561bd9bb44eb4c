/- chart: the document's Encode. Conditions: the mounts lie in memory; paths have at most 4194304 bytes, the mounts are at most 1000000. -/
import Derived.Test.YtbkjhogfpcmcbaaDoorLi
import Derived.Test.YtbkjhogfpcmcbaaDoorLh
import Derived.Test.YtbkjhogfpcmcbaaDoorLa
import Derived.Test.YtbkjhogfpcmcbaaDoorKg
import Derived.Test.YtbkjhogfpcmcbaaDoorSteps
namespace Go.Proofs.YtbkjhogfpcmcbaaDoor
open Go Go.RowKit Zn
open Go.Lib (decDigits)
set_option linter.unusedVariables false
set_option linter.unusedSimpArgs false
variable {w w' : World}
def Encoded (O : Option Nm) (w : World) (e : Ending) (w' : World) : Prop := (match O with
  | none => e = .returned (.tuple #[.string ⟨#[]⟩, .int .i64 200])
  | some t => e = .returned (.tuple #[.string ⟨t.toArray⟩, .int .i64 0])) ∧ Below w.heap.size w w'
theorem Encoded.no {O : Option Nm} (h : O = none) (hb : Below w.heap.size w w') : Encoded O w (.returned (.tuple #[.string ⟨#[]⟩, .int .i64 200])) w' := by
  subst h; exact ⟨rfl, hb⟩
theorem Encoded.yes {O : Option Nm} {t : ByteArray} (h : O = some t.data.toList) (hb : Below w.heap.size w w') : Encoded O w (.returned (.tuple #[.string t, .int .i64 0])) w' := by
  subst h; exact ⟨rfl, hb⟩
theorem encL_snoc (l : List Mt) (x : Mt) : encL (l ++ [x]) = encL l ++ encM x := by simp [encL]
theorem encL_next {ms : List Mt} {k : Nat} {x : Mt} (h : ms[k]? = some x) : encL (ms.take (k + 1)) = encL (ms.take k) ++ encM x := by rw [List.take_add_one, h]; exact encL_snoc _ _
theorem enc_len {x : Mt} (h : validZ x.p.data.toList = true ∧ 1 ≤ x.v ∧ x.v ≤ 999) : x.p.size ≤ 489 ∧ (decDigits x.v.toNat).length ≤ 3 := by
  obtain ⟨L, hL⟩ := valid_some h.1
  exact ⟨by rw [Lib.size_eq]; exact path_len hL, dec_len 2 _ (by omega)⟩
theorem encM_len {x : Mt} (h : validZ x.p.data.toList = true ∧ 1 ≤ x.v ∧ x.v ≤ 999) : (encM x).length ≤ 494 := by
  obtain ⟨h1, h2⟩ := enc_len h
  unfold encM
  rw [List.length_append, List.length_cons, List.length_append, List.length_singleton, ← Lib.size_eq]
  omega
theorem encL_len {ms : List Mt} (h : ∀ x ∈ ms, validZ x.p.data.toList = true ∧ 1 ≤ x.v ∧ x.v ≤ 999) : (encL ms).length ≤ 494 * ms.length := by
  induction ms with
  | nil => simp [encL]
  | cons x l ih =>
    have h1 := encM_len (h x (by simp))
    have h2 := ih fun y hy => h y (by simp [hy])
    show (encM x ++ encL l).length ≤ _
    rw [List.length_append, List.length_cons]
    omega
set_option maxRecDepth 100000 in
set_option maxHeartbeats 4000000 in
theorem renc_any (a : Option Addr) (len cap : Nat) (ms : List Mt) (w : World) (h : MsAt w a len ms) (hs : ∀ x ∈ ms, x.p.size ≤ 4194304) (hl : len ≤ 1000000) :
    Calls Tryd.prog 16 #[.slice a len cap] w (Encoded (encO ms) w) := by
  have C := rcheck_any a len cap ms h hs hl
  unfold checkE at C
  cases hcb : checkB ms with
  | false =>
    rw [hcb] at C
    have C := Lib.hid C
    have HE := Lib.hid (show encO ms = none by unfold encO; rw [hcb]; rfl)
    clear h hs hcb
    go_enter Tryd.func16, Tryd.ntmps16
    go_wp2_with fail
    refine C.out.mono ?_
    rintro e w1 ⟨rfl, b1⟩
    have HB := Lib.hid b1
    clear b1 C
    go_wp2_with fail
    exact ret_two rfl rfl (x := .string ⟨#[]⟩) (y := .int .i64 200) rfl rfl (Encoded.no HE.out HB.out)
  | true =>
    rw [hcb] at C
    have C := Lib.hid C
    have hmem : ∀ x ∈ ms, validZ x.p.data.toList = true ∧ 1 ≤ x.v ∧ x.v ≤ 999 := fun x hx => check_mem hcb hx
    have hll := h.len
    have h40 : ms.length ≤ 40 := (check_parts hcb).2.1
    have HLE := Lib.hid hll
    have HME := Lib.hid hmem
    have H := Lib.hid h
    have HEO := Lib.hid (show encO ms = if (encL ms).length ≤ 1024 then some (encL ms) else none by unfold encO; rw [hcb, Bool.true_and]; simp only [decide_eq_true_eq])
    have hlen40 : len ≤ 40 := by omega
    clear h hs hcb hmem hll h40 hl
    go_enter Tryd.func16, Tryd.ntmps16
    go_wp2_with fail
    refine C.out.mono ?_
    rintro e w1 ⟨rfl, b1⟩
    have HB := Lib.hid b1
    clear b1 C
    go_wp2_with fail
    go_loopw [4, 5] (fun v i wr => ∃ (k : Nat) (O : ByteArray), k ≤ len ∧ i = .int .i64 k ∧ v = .string O ∧ O.data.toList = encL (ms.take k) ∧ Below w.heap.size w wr) (fun _ i _ => len - (intOf i).toNat)
    case atStart => exact ⟨0, _, Nat.zero_le _, rfl, rfl, rfl, HB.out⟩
    case round =>
      obtain ⟨k, O, hk, rfl, rfl, hO, hb⟩ := hrel
      have HB := Lib.hid hb
      have HO := Lib.hid hO
      have hOs : O.size ≤ 19760 := by
        rw [Lib.size_eq, hO]
        have h1 := encL_len (ms := ms.take k) fun x hx => HME.out x (List.mem_of_mem_take hx)
        rw [List.length_take] at h1
        omega
      clear hO
      by_cases hlt : k < len
      · obtain ⟨b, off, x, rfl, hp, hbl, c0, c1⟩ := H.out.get k hlt
        have c0 := (hb.cell (p := ⟨b, off + k * 2, none⟩) hbl).trans c0
        have c1 := (hb.cell (p := ⟨b, off + k * 2 + 1, none⟩) hbl).trans c1
        have hbw : b < wr.heap.size := Nat.lt_of_lt_of_le hbl hb.size
        have hx := HME.out x (List.mem_of_getElem? hp)
        have hel := enc_len hx
        obtain ⟨n, hn⟩ := Int.eq_ofNat_of_zero_le (show 0 ≤ x.v by omega)
        have C2 := fun w1 => rdigits_any n (by omega) w1
        unfold Digited at C2
        obtain ⟨T, hT⟩ : ∃ T : ByteArray, T = ⟨(decDigits n).toArray⟩ := ⟨_, rfl⟩
        have hTD : T.data.toList = decDigits n := by rw [hT]
        have hTs : T.size ≤ 3 := by rw [Lib.size_eq, hTD]; have := hel.2; rw [hn, Int.toNat_natCast] at this; exact this
        have hps : x.p.size ≤ 489 := hel.1
        rw [← hT] at C2
        rw [hn] at c1
        have C2 := Lib.hid C2
        have f1 : ¬ 9223372036854775807 < O.size + T.size := by omega
        have f2 : ¬ 9223372036854775807 < O.size + T.size + 1 := by omega
        have f3 : ¬ 9223372036854775807 < O.size + T.size + 1 + x.p.size := by omega
        have f4 : ¬ 9223372036854775807 < O.size + T.size + 1 + x.p.size + 1 := by omega
        have HE2 := Lib.hid (show ((((O ++ T) ++ (⟨#[32]⟩ : ByteArray)) ++ x.p) ++ (⟨#[10]⟩ : ByteArray)).data.toList = encL (ms.take (k + 1)) by
          rw [encL_next hp, cat_mk, cat_mk, cat_mk, cat_mk, HO.out, hTD]
          unfold encM
          rw [hn, Int.toNat_natCast]
          simp)
        clear hp hb hbl hx hel hn hT hTD hOs hTs hps
        go_upto_region 7 with (fail)
        refine wp_region_steps (fun w' => Below wr.heap.size wr w') [(true, 0), (true, 1), (true, 2), (true, 3), (true, 4), (true, 5), (true, 9), (true, 10), (true, 11), (true, 12), (true, 13), (false, 6), (true, 7), (true, 8), (true, 14), (true, 15), (false, 16)] 16 _ _ (by kernel_rfl) rfl (by kernel_rfl) (by kernel_rfl) rfl (fun _ _ _ _ _ h => h) (Below.drew (Below.refl _ _)) ?_
        intro S HS
        simp only [pickS, List.getElem?_cons_zero, List.getElem?_cons_succ]
        refine wpSteps_head ?_
        go_big_quiet_want; go_big_quiet_op; go_big_quiet_on
        refine wpQuiet_nil ?_
        refine wpSteps_head ?_
        go_big_quiet_want; go_big_quiet_op; go_big_quiet_on
        refine wpQuiet_nil ?_
        refine wpSteps_head ?_
        go_big_quiet_want; go_big_quiet_op; go_big_quiet_on
        refine wpQuiet_nil ?_
        refine wpSteps_head ?_
        go_big_quiet_want; apply quiet_value; (· (intro w' hw; have hw := (HS.out _).1 hw; have e0 := (hw.cell (p := ⟨b, off + k * 2, none⟩) hbw).trans c0; have e1 := (hw.cell (p := ⟨b, off + k * 2 + 1, none⟩) hbw).trans c1; have hl0 := Nat.lt_of_lt_of_le hbw hw.size; go_simp; try rfl)); simp only [Act.put, List.setIfInBounds_toArray, List.set_cons_succ, List.set_cons_zero]; go_big_quiet_on
        refine wpQuiet_nil ?_
        refine wpSteps_head ?_
        go_big_quiet_want; apply quiet_value; (· (intro w' hw; have hw := (HS.out _).1 hw; have e0 := (hw.cell (p := ⟨b, off + k * 2, none⟩) hbw).trans c0; have e1 := (hw.cell (p := ⟨b, off + k * 2 + 1, none⟩) hbw).trans c1; have hl0 := Nat.lt_of_lt_of_le hbw hw.size; go_simp; try rfl)); simp only [Act.put, List.setIfInBounds_toArray, List.set_cons_succ, List.set_cons_zero]; go_big_quiet_on
        refine wpQuiet_nil ?_
        refine wpSteps_head ?_
        go_big_quiet_want; apply quiet_value; (· (intro w' hw; have hw := (HS.out _).1 hw; have e0 := (hw.cell (p := ⟨b, off + k * 2, none⟩) hbw).trans c0; have e1 := (hw.cell (p := ⟨b, off + k * 2 + 1, none⟩) hbw).trans c1; have hl0 := Nat.lt_of_lt_of_le hbw hw.size; go_simp; try rfl)); simp only [Act.put, List.setIfInBounds_toArray, List.set_cons_succ, List.set_cons_zero]; go_big_quiet_on
        refine wpQuiet_nil ?_
        refine wpSteps_head ?_
        go_big_quiet_want; go_big_quiet_op; go_big_quiet_on
        refine wpQuiet_nil ?_
        refine wpSteps_head ?_
        go_big_quiet_want; go_big_quiet_op; go_big_quiet_on
        refine wpQuiet_nil ?_
        refine wpSteps_head ?_
        go_big_quiet_want; apply quiet_value; (· (intro w' hw; have hw := (HS.out _).1 hw; have e0 := (hw.cell (p := ⟨b, off + k * 2, none⟩) hbw).trans c0; have e1 := (hw.cell (p := ⟨b, off + k * 2 + 1, none⟩) hbw).trans c1; have hl0 := Nat.lt_of_lt_of_le hbw hw.size; go_simp; try rfl)); simp only [Act.put, List.setIfInBounds_toArray, List.set_cons_succ, List.set_cons_zero]; go_big_quiet_on
        refine wpQuiet_nil ?_
        refine wpSteps_head ?_
        go_big_quiet_want; apply quiet_value; (· (intro w' hw; have hw := (HS.out _).1 hw; have e0 := (hw.cell (p := ⟨b, off + k * 2, none⟩) hbw).trans c0; have e1 := (hw.cell (p := ⟨b, off + k * 2 + 1, none⟩) hbw).trans c1; have hl0 := Nat.lt_of_lt_of_le hbw hw.size; go_simp; try rfl)); simp only [Act.put, List.setIfInBounds_toArray, List.set_cons_succ, List.set_cons_zero]; go_big_quiet_on
        refine wpQuiet_nil ?_
        refine wpSteps_head ?_
        go_big_quiet_want; apply quiet_value; (· (intro w' hw; have hw := (HS.out _).1 hw; have e0 := (hw.cell (p := ⟨b, off + k * 2, none⟩) hbw).trans c0; have e1 := (hw.cell (p := ⟨b, off + k * 2 + 1, none⟩) hbw).trans c1; have hl0 := Nat.lt_of_lt_of_le hbw hw.size; go_simp; try rfl)); simp only [Act.put, List.setIfInBounds_toArray, List.set_cons_succ, List.set_cons_zero]; go_big_quiet_on
        refine wpQuiet_nil ?_
        refine wpSteps_more ?_
        go_wp2_with fail
        refine (C2.out _).mono ?_
        rintro e w6 ⟨rfl, b6⟩
        have hb6 : Below wr.heap.size wr w6 := (Below.drew (Below.refl _ _)).trans b6
        have HB6 := Lib.hid hb6
        have p6 : S w6 := (HS.out _).2 hb6
        clear b6 hb6
        go_wp2_with fail
        refine ThenS.mk p6 ?_
        refine wpSteps_head ?_
        go_big_quiet_want; apply quiet_value; (· (intro w' hw; have hw := (HS.out _).1 hw; have e0 := (hw.cell (p := ⟨b, off + k * 2, none⟩) hbw).trans c0; have e1 := (hw.cell (p := ⟨b, off + k * 2 + 1, none⟩) hbw).trans c1; have hl0 := Nat.lt_of_lt_of_le hbw hw.size; go_simp; try rfl)); simp only [Act.put, List.setIfInBounds_toArray, List.set_cons_succ, List.set_cons_zero]; go_big_quiet_on
        refine wpQuiet_nil ?_
        refine wpSteps_head ?_
        go_big_quiet_want; apply quiet_value; (· (intro w' hw; have hw := (HS.out _).1 hw; have e0 := (hw.cell (p := ⟨b, off + k * 2, none⟩) hbw).trans c0; have e1 := (hw.cell (p := ⟨b, off + k * 2 + 1, none⟩) hbw).trans c1; have hl0 := Nat.lt_of_lt_of_le hbw hw.size; go_simp; try rfl)); simp only [Act.put, List.setIfInBounds_toArray, List.set_cons_succ, List.set_cons_zero]; go_big_quiet_on
        refine wpQuiet_nil ?_
        refine wpSteps_head ?_
        go_big_quiet_want; apply quiet_value; (· (intro w' hw; have hw := (HS.out _).1 hw; have e0 := (hw.cell (p := ⟨b, off + k * 2, none⟩) hbw).trans c0; have e1 := (hw.cell (p := ⟨b, off + k * 2 + 1, none⟩) hbw).trans c1; have hl0 := Nat.lt_of_lt_of_le hbw hw.size; go_simp; try rfl)); simp only [Act.put, List.setIfInBounds_toArray, List.set_cons_succ, List.set_cons_zero]; go_big_quiet_on
        refine wpQuiet_nil ?_
        refine wpSteps_head ?_
        go_big_quiet_want; apply quiet_value; (· (intro w' hw; have hw := (HS.out _).1 hw; have e0 := (hw.cell (p := ⟨b, off + k * 2, none⟩) hbw).trans c0; have e1 := (hw.cell (p := ⟨b, off + k * 2 + 1, none⟩) hbw).trans c1; have hl0 := Nat.lt_of_lt_of_le hbw hw.size; go_simp; try rfl)); simp only [Act.put, List.setIfInBounds_toArray, List.set_cons_succ, List.set_cons_zero]; go_big_quiet_on
        refine wpQuiet_nil ?_
        refine wpSteps_last ?_
        go_wp2_with fail
        go_roundw
        case rel => exact ⟨k + 1, _, by omega, by go_num, rfl, HE2.out, HB.out.trans (HB6.out.mono HB.out.size)⟩
        case measure => simp [intOf]; omega
      · obtain rfl : k = len := by omega
        have htk : ms.take k = ms := List.take_of_length_le (by rw [HLE.out]; exact Nat.le_refl _)
        have hOl : O.data.toList = encL ms := by rw [HO.out, htk]
        have hE := HEO.out
        rw [← hOl, ← Lib.size_eq] at hE
        clear hb htk hOl hlt
        by_cases h1 : O.size ≤ 1024
        · rw [if_pos h1] at hE
          have HE := Lib.hid hE
          have q1 : decide ((1024 : Int) < (O.size : Int)) = false := by rw [decide_eq_false_iff_not]; omega
          clear hE h1
          go_wp2_with fail
          exact ret_two rfl rfl (x := .string O) (y := .int .i64 0) rfl rfl (Encoded.yes HE.out HB.out)
        · rw [if_neg h1] at hE
          have HE := Lib.hid hE
          have q1 : decide ((1024 : Int) < (O.size : Int)) = true := by rw [decide_eq_true_iff]; omega
          clear hE h1
          go_wp2_with fail
          exact ret_two rfl rfl (x := .string ⟨#[]⟩) (y := .int .i64 200) rfl rfl (Encoded.no HE.out HB.out)
end Go.Proofs.YtbkjhogfpcmcbaaDoor
