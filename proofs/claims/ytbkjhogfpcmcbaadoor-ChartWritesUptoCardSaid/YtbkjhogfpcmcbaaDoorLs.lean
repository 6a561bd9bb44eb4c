/- chart: ChartWrites' walk. Conditions: the bulk of what comes in is at most 1048576; the library's variables hold what the row lays. -/
import Derived.Test.YtbkjhogfpcmcbaaDoorLr
import Derived.Test.YtbkjhogfpcmcbaaDoorLp
import Derived.Test.YtbkjhogfpcmcbaaDoorOpenB
namespace Go.Proofs.YtbkjhogfpcmcbaaDoor
open Go Go.RowKit Go.ChangeShapes Go.WideShapes Go.ChangeAt Go.Deep Zn
set_option linter.unusedVariables false
set_option linter.unusedSimpArgs false
variable {w w' : World}
set_option maxRecDepth 100000
theorem k9w : Tryd.prog.cellsOf 9 = 1 := by kernel_rfl
theorem k3w : Tryd.prog.cellsOf 3 = 1 := by kernel_rfl
theorem k45w : Tryd.prog.cellsOf 45 = 2 := by kernel_rfl
theorem shape45w {H : Type} {enc : TypeId × Value → H} {W : World} {n : Nat} {r : List Value} {y : DataW H × List MemPlace} (h : DataW.trod enc Tryd.prog W 0 (fun _ => true) true n 45 r = some y) (hr : r.length = 2) : ∃ x : Mt, r = mc x ∧ x.p.size ≤ Rows.uptoBulk y.1 := by
  obtain ⟨xs, n', _, hx, _, hlen, hg⟩ := DataW.trod_struct Tryd.underlying45 h
  match r, hr with
  | [c0, c1], _ =>
    match xs, hlen with
    | [y0, y1], _ =>
      have h0 := hg 0 _ rfl
      have h1 := hg 1 _ rfl
      simp [k3w, k9w] at h0 h1
      obtain ⟨s, hs, hy, _⟩ := DataW.trod_string Tryd.underlying9 h0
      obtain ⟨a, ha, _⟩ := DataW.trod_int Tryd.underlying3 h1
      simp at ha hs
      refine ⟨⟨s, a⟩, by rw [ha, hs]; rfl, ?_⟩
      have hp := agg_part (show y0 ∈ [y0, y1] by simp)
      rw [hx]
      exact str_part (s := s) (Nat.le_trans (Nat.le_of_eq (by rw [hy])) hp)
theorem rows_mtw {B : Nat} {l : List (List Value)} (h : ∀ r ∈ l, ∃ x : Mt, r = mc x ∧ x.p.size ≤ B) : ∃ L : List Mt, l = L.map mc ∧ ∀ x ∈ L, x.p.size ≤ B := by
  induction l with
  | nil => exact ⟨[], rfl, by simp⟩
  | cons r l ih =>
    obtain ⟨s, rfl, hp⟩ := h r (by simp)
    obtain ⟨L, rfl, hL⟩ := ih fun r hr => h r (by simp [hr])
    exact ⟨s :: L, rfl, fun z hz => (List.mem_cons.1 hz).elim (fun e => e ▸ hp) (hL z)⟩
theorem open_mountsw {H : Type} {enc : TypeId × Value → H} {W : World} {base : Nat} {v : Value} {d : DataW H} {p : List MemPlace} (hv : Value.okWide Tryd.prog W .any base 26 v) (h : DataW.Trod enc Tryd.prog W 0 (fun _ => true) true 26 v d p) (hd : Rows.uptoBulk d ≤ 1048576) :
    ∃ a len cap ms, v = .slice a len cap ∧ MsAt W a len ms ∧ (∀ x ∈ ms, x.p.size ≤ 1048576) ∧ len ≤ cap ∧ cap ≤ maxLen := by
  obtain ⟨a, len, cap, rfl⟩ := okWide_slice Tryd.underlying26 hv
  obtain ⟨rows, hr, h1, h2, hs⟩ := open_rows_b Tryd.underlying26 k45w (by omega) h
  obtain ⟨L, rfl, ho⟩ := rows_mtw (B := 1048576) fun r hrm => by
    obtain ⟨hl, n, y, hy, hb⟩ := hs r hrm
    obtain ⟨o, ho, hz⟩ := shape45w hy hl
    exact ⟨o, ho, by omega⟩
  exact ⟨a, len, cap, L, rfl, hr, ho, h1, h2⟩
theorem dec_empty : decodeO [] = none := by decide +kernel
set_option maxRecDepth 100000
set_option maxHeartbeats 4000000 in
theorem chartWrites_walk {H : Type} {enc : TypeId × Value → H} {p : List MemPlace} {base : Nat} (W : World) (hm : Mx W) (ht : Tb W) (v0 : Value) (d0 : DataW H) (hv0 : Value.okWide Tryd.prog W .any base 26 v0) (h0 : DataW.Trod enc Tryd.prog W 0 (fun _ => true) true 26 v0 d0 p) (hd0 : Rows.uptoBulk d0 ≤ 1048576) :
    Calls Tryd.prog 4 #[v0] W fun e W' => e = .returned (.bool true) ∧ Below W.heap.size W W' := by
  obtain ⟨a, len, cap, ms, rfl, hA, hx, hlc, hcm⟩ := open_mountsw hv0 h0 hd0
  clear hv0 h0 hd0
  have AL := Lib.hid (fun w1 (h : Mx w1) => alive_any w1 h)
  by_cases h60 : 60 < len
  · have q1 : decide ((60 : Int) < (len : Int)) = true := by rw [decide_eq_true_iff]; omega
    have A1 := Lib.hid (AL.out W hm)
    clear hA hx hm ht h60
    go_enter Tryd.func4, Tryd.ntmps4
    go_wp2_with fail
    refine A1.out.mono ?_
    rintro e w1 ⟨rfl, b1⟩
    have HB := Lib.hid b1
    clear b1 A1
    go_wp2_with fail
    go_ret
    exact ⟨rfl, HB.out⟩
  have q1 : decide ((60 : Int) < (len : Int)) = false := by rw [decide_eq_false_iff_not]; omega
  have hl60 : len ≤ 60 := by omega
  have hs4 : ∀ x ∈ ms, x.p.size ≤ 4194304 := fun x h => Nat.le_trans (hx x h) (by omega)
  have C1 := Lib.hid (fun w1 (h : MsAt w1 a len ms) => own_any a len cap ms w1 h (by omega))
  have C5 := Lib.hid (fun b c w1 (hm : Mx w1) (h : MsAt w1 b len ms) => check_any (w := w1) b len c ms h hs4 hm (by omega))
  have C6 := Lib.hid (fun w1 (h : MsAt w1 a len ms) => rcheck_any (w := w1) a len cap ms h hs4 (by omega))
  have c2 := fun b c w1 (hm : Mx w1) (ht : Tb w1) (h : MsAt w1 b len ms) => enc_any b len c ms w1 h hs4 (by omega) hm ht
  have c3 := fun w1 (h : MsAt w1 a len ms) => renc_any a len cap ms w1 h hs4 (by omega)
  unfold Encoded at c2 c3
  have HA := Lib.hid hA
  have HM := Lib.hid hm
  have HT := Lib.hid ht
  obtain ⟨ce, hce⟩ : ∃ ce, ce = checkE ms := ⟨_, rfl⟩
  rw [← hce] at C5 C6
  cases ho : encO ms with
  | none =>
    rw [ho] at c2 c3
    have C2 := Lib.hid c2
    have C3 := Lib.hid c3
    have c7 := fun w1 (h : Mx w1) => decode_any ⟨#[]⟩ w1 (by decide) h
    rw [show (⟨#[]⟩ : ByteArray).data.toList = [] from rfl, dec_empty] at c7
    unfold Decoded at c7
    have C7 := Lib.hid c7
    clear hA hm ht hx hs4 h60 hce c2 c3 c7 ho
    go_enter Tryd.func4, Tryd.ntmps4
    go_wp2_with fail
    refine (C1.out _ HA.out).mono ?_
    rintro e w1 ⟨b, c, rfl, hb, b1⟩
    have HB1 := Lib.hid b1
    have HM1 := Lib.hid (HM.out.below b1)
    have HT1 := Lib.hid (HT.out.below b1)
    have HA1 := Lib.hid (HA.out.below b1 (Nat.le_refl _))
    have HO1 := Lib.hid hb
    clear b1 hb
    go_wp2_with fail
    refine (C2.out _ _ _ HM1.out HT1.out HO1.out).mono ?_
    rintro e w2 ⟨rfl, b2⟩
    have HB2 := Lib.hid (HB1.out.trans (b2.mono HB1.out.size))
    have HM2 := Lib.hid (HM1.out.below b2)
    have HA2 := Lib.hid (HA1.out.below b2 (Nat.le_refl _))
    clear b2
    go_wp2_with fail
    refine (C3.out _ HA2.out).mono ?_
    rintro e w3 ⟨rfl, b3⟩
    have HB3 := Lib.hid (HB2.out.trans (b3.mono HB2.out.size))
    have HM3 := Lib.hid (HM2.out.below b3)
    have HA3 := Lib.hid (HA2.out.below b3 (Nat.le_refl _))
    clear b3
    go_wp2_with fail
    refine (C1.out _ HA3.out).mono ?_
    rintro e w5 ⟨b', c', rfl, hb, b5⟩
    have HB5 := Lib.hid (HB3.out.trans (b5.mono HB3.out.size))
    have HM5 := Lib.hid (HM3.out.below b5)
    have HA5 := Lib.hid (HA3.out.below b5 (Nat.le_refl _))
    have HO5 := Lib.hid hb
    clear b5 hb
    go_wp2_with fail
    refine (C5.out _ _ _ HM5.out HO5.out).mono ?_
    rintro e w6 ⟨rfl, b6⟩
    have HB6 := Lib.hid (HB5.out.trans (b6.mono HB5.out.size))
    have HM6 := Lib.hid (HM5.out.below b6)
    have HA6 := Lib.hid (HA5.out.below b6 (Nat.le_refl _))
    clear b6
    go_wp2_with fail
    refine (C6.out _ HA6.out).mono ?_
    rintro e w7 ⟨rfl, b7⟩
    have HB7 := Lib.hid (HB6.out.trans (b7.mono HB6.out.size))
    have HM7 := Lib.hid (HM6.out.below b7)
    have HA7 := Lib.hid (HA6.out.below b7 (Nat.le_refl _))
    clear b7
    go_wp2_with fail
    refine (C7.out _ HM7.out).mono ?_
    rintro e w8 ⟨rfl, b8⟩
    have HB8 := Lib.hid (HB7.out.trans (b8.mono HB7.out.size))
    have HM8 := Lib.hid (HM7.out.below b8)
    clear b8
    go_wp2_with fail
    refine (AL.out _ HM8.out).mono ?_
    rintro e w9 ⟨rfl, b9⟩
    have HB9 := Lib.hid (HB8.out.trans (b9.mono HB8.out.size))
    clear b9
    go_wp2_with fail
    go_ret
    exact ⟨rfl, HB9.out⟩
  | some t =>
    rw [ho] at c2 c3
    obtain ⟨T, hT⟩ : ∃ T : ByteArray, T = ⟨t.toArray⟩ := ⟨_, rfl⟩
    have hTD : T.data.toList = t := by rw [hT]
    have hts : t.length ≤ 1024 := by
      unfold encO at ho
      split at ho
      · rename_i hc
        rw [Bool.and_eq_true, decide_eq_true_eq] at hc
        obtain rfl := Option.some.inj ho
        exact hc.2
      · cases ho
    have c7 := fun w1 (h : Mx w1) => decode_any T w1 (by rw [Lib.size_eq, hTD]; omega) h
    rw [hTD, dec_of_enc ho] at c7
    unfold Decoded at c7
    have hll := hA.len
    simp only [hll] at c7
    simp only [← hT] at c2 c3
    have C2 := Lib.hid c2
    have C3 := Lib.hid c3
    have C7 := Lib.hid c7
    have C8 := Lib.hid (fun (b : Option Addr) (cb : Nat) w1 (h1 : MsAt w1 b len ms) (h2 : MsAt w1 a len ms) => same_any b a len cb cap ms w1 h1 h2 (by omega))
    clear hA hm ht hx hs4 h60 hce c2 c3 c7 ho hT hTD hts hll
    go_enter Tryd.func4, Tryd.ntmps4
    go_wp2_with fail
    refine (C1.out _ HA.out).mono ?_
    rintro e w1 ⟨b, c, rfl, hb, b1⟩
    have HB1 := Lib.hid b1
    have HM1 := Lib.hid (HM.out.below b1)
    have HT1 := Lib.hid (HT.out.below b1)
    have HA1 := Lib.hid (HA.out.below b1 (Nat.le_refl _))
    have HO1 := Lib.hid hb
    clear b1 hb
    go_wp2_with fail
    refine (C2.out _ _ _ HM1.out HT1.out HO1.out).mono ?_
    rintro e w2 ⟨rfl, b2⟩
    have HB2 := Lib.hid (HB1.out.trans (b2.mono HB1.out.size))
    have HM2 := Lib.hid (HM1.out.below b2)
    have HA2 := Lib.hid (HA1.out.below b2 (Nat.le_refl _))
    clear b2
    go_wp2_with fail
    refine (C3.out _ HA2.out).mono ?_
    rintro e w3 ⟨rfl, b3⟩
    have HB3 := Lib.hid (HB2.out.trans (b3.mono HB2.out.size))
    have HM3 := Lib.hid (HM2.out.below b3)
    have HA3 := Lib.hid (HA2.out.below b3 (Nat.le_refl _))
    clear b3
    go_wp2_with fail
    refine (C1.out _ HA3.out).mono ?_
    rintro e w5 ⟨b', c', rfl, hb, b5⟩
    have HB5 := Lib.hid (HB3.out.trans (b5.mono HB3.out.size))
    have HM5 := Lib.hid (HM3.out.below b5)
    have HA5 := Lib.hid (HA3.out.below b5 (Nat.le_refl _))
    have HO5 := Lib.hid hb
    clear b5 hb
    go_wp2_with fail
    refine (C5.out _ _ _ HM5.out HO5.out).mono ?_
    rintro e w6 ⟨rfl, b6⟩
    have HB6 := Lib.hid (HB5.out.trans (b6.mono HB5.out.size))
    have HM6 := Lib.hid (HM5.out.below b6)
    have HA6 := Lib.hid (HA5.out.below b6 (Nat.le_refl _))
    clear b6
    go_wp2_with fail
    refine (C6.out _ HA6.out).mono ?_
    rintro e w7 ⟨rfl, b7⟩
    have HB7 := Lib.hid (HB6.out.trans (b7.mono HB6.out.size))
    have HM7 := Lib.hid (HM6.out.below b7)
    have HA7 := Lib.hid (HA6.out.below b7 (Nat.le_refl _))
    clear b7
    go_wp2_with fail
    refine (C7.out _ HM7.out).mono ?_
    rintro e w8 ⟨a8, c8, rfl, h8, b8⟩
    have HB8 := Lib.hid (HB7.out.trans (b8.mono HB7.out.size))
    have HM8 := Lib.hid (HM7.out.below b8)
    have HA8 := Lib.hid (HA7.out.below b8 (Nat.le_refl _))
    have HD8 := Lib.hid h8
    clear b8 h8
    go_wp2_with fail
    refine (AL.out _ HM8.out).mono ?_
    rintro e w9 ⟨rfl, b9⟩
    have HB9 := Lib.hid (HB8.out.trans (b9.mono HB8.out.size))
    have HA9 := Lib.hid (HA8.out.below b9 (Nat.le_refl _))
    have HD9 := Lib.hid (HD8.out.below b9 (Nat.le_refl _))
    clear b9
    go_wp2_with fail
    refine (C8.out _ _ _ HD9.out HA9.out).mono ?_
    rintro e w10 ⟨rfl, b10⟩
    have HB10 := Lib.hid (HB9.out.trans (b10.mono HB9.out.size))
    clear b10
    go_wp2_with fail
    go_ret
    exact ⟨rfl, HB10.out⟩
end Go.Proofs.YtbkjhogfpcmcbaaDoor
