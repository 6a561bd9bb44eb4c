/- chart: same; ChartReads' walk. Conditions: the text has at most 1048576 bytes; the library's variable holds a number. -/
import Derived.Test.YtbkjhogfpcmcbaaDoorLo
import Derived.Test.YtbkjhogfpcmcbaaDoorKk
namespace Go.Proofs.YtbkjhogfpcmcbaaDoor
open Go Go.RowKit Zn
set_option linter.unusedVariables false
set_option linter.unusedSimpArgs false
variable {w w' : World}
set_option maxHeartbeats 1000000 in
theorem same_any (a b : Option Addr) (len ca cb : Nat) (ms : List Mt) (w : World) (h1 : MsAt w a len ms) (h2 : MsAt w b len ms) (hl : len ≤ 1000000) :
    Calls Tryd.prog 13 #[.slice a len ca, .slice b len cb] w fun e w' => e = .returned (.bool true) ∧ Below w.heap.size w w' := by
  have H1 := Lib.hid h1
  have H2 := Lib.hid h2
  clear h1 h2
  go_enter Tryd.func13, Tryd.ntmps13
  go_wp2_with fail
  go_loopw [13] (fun i wr => ∃ k : Nat, k ≤ len ∧ i = .int .i64 k ∧ Below w.heap.size w wr) (fun i _ => len - (intOf i).toNat)
  case atStart => exact ⟨0, Nat.zero_le _, rfl, Below.refl _ _⟩
  case round =>
    obtain ⟨k, hk, rfl, hb⟩ := hrel
    have HB := Lib.hid hb
    by_cases hlt : k < len
    · obtain ⟨g, off, x, rfl, hp, hg, c0, c1⟩ := H1.out.get k hlt
      obtain ⟨g', off', x', rfl, hp', hg', d0, d1⟩ := H2.out.get k hlt
      obtain rfl : x = x' := Option.some.inj (hp.symm.trans hp')
      have c0 := (hb.cell (p := ⟨g, off + k * 2, none⟩) hg).trans c0
      have c1 := (hb.cell (p := ⟨g, off + k * 2 + 1, none⟩) hg).trans c1
      have d0 := (hb.cell (p := ⟨g', off' + k * 2, none⟩) hg').trans d0
      have d1 := (hb.cell (p := ⟨g', off' + k * 2 + 1, none⟩) hg').trans d1
      have hgl : g < wr.heap.size := Nat.lt_of_lt_of_le hg hb.size
      have hgl' : g' < wr.heap.size := Nat.lt_of_lt_of_le hg' hb.size
      clear hb hp hp' hg hg'
      go_upto_region 6 with (fail)
      go_quiet (fail)
      go_wp2_with fail
      go_roundw
      case rel => exact ⟨k + 1, by omega, by go_num, Below.drewN HB.out nq⟩
      case measure => simp [intOf]; omega
    · obtain rfl : k = len := by omega
      clear hb
      go_wp2_with fail
      go_ret
      exact ⟨rfl, HB.out⟩
theorem dec_check {l : Nm} {ms : List Mt} (h : decodeO l = some ms) : checkB ms = true := by
  unfold decodeO at h
  split at h
  · cases hf : decF l.length l with
    | none => rw [hf] at h; cases h
    | some y =>
      rw [hf] at h
      simp only at h
      split at h
      · obtain rfl := Option.some.inj h; assumption
      · cases h
  · cases h
theorem ms_nil (w : World) : MsAt w none 0 [] := ⟨rfl, .inl rfl⟩
set_option maxHeartbeats 2000000 in
theorem chartReads_walk (W : World) (hm : Mx W) (s : ByteArray) (_ws : s.size ≤ maxLen) (hs : s.size ≤ 1048576) :
    Calls Tryd.prog 3 #[.string s] W fun e W' => e = .returned (.bool true) ∧ Below W.heap.size W W' := by
  have AL := Lib.hid (fun w1 (h : Mx w1) => alive_any w1 h)
  have C1 := decode_any s W (by omega) hm
  have C2 := fun w1 => rdecode_any s w1 hs
  rw [rdec_eq] at C2
  have HM := Lib.hid hm
  clear hm _ws hs
  cases hd : decodeO s.data.toList with
  | none =>
    rw [hd] at C1 C2
    unfold Decoded at C1 C2
    have C1 := Lib.hid C1
    have C2 := Lib.hid C2
    have C4 := Lib.hid (fun w1 => same_any none none 0 0 0 [] w1 (ms_nil w1) (ms_nil w1) (by omega))
    clear hd
    go_enter Tryd.func3, Tryd.ntmps3
    go_wp2_with fail
    refine C1.out.mono ?_
    rintro e w1 ⟨rfl, b1⟩
    have HB1 := Lib.hid b1
    have HM1 := Lib.hid (HM.out.below b1)
    clear b1
    go_wp2_with fail
    refine (C2.out _).mono ?_
    rintro e w2 ⟨rfl, b2⟩
    have HB2 := Lib.hid (HB1.out.trans (b2.mono HB1.out.size))
    have HM2 := Lib.hid (HM1.out.below b2)
    clear b2
    go_wp2_with fail
    refine (AL.out _ HM2.out).mono ?_
    rintro e w3 ⟨rfl, b3⟩
    have HB3 := Lib.hid (HB2.out.trans (b3.mono HB2.out.size))
    clear b3
    go_wp2_with fail
    refine (C4.out _).mono ?_
    rintro e w4 ⟨rfl, b4⟩
    have HB4 := Lib.hid (HB3.out.trans (b4.mono HB3.out.size))
    clear b4
    go_wp2_with fail
    go_ret
    exact ⟨rfl, HB4.out⟩
  | some ms =>
    rw [hd] at C1 C2
    unfold Decoded at C1 C2
    have hl40 := (check_parts (dec_check hd)).2.1
    obtain ⟨n, hn⟩ : ∃ n, n = ms.length := ⟨_, rfl⟩
    have C4 := Lib.hid (fun (a b : Option Addr) (ca cb : Nat) w1 (h1 : MsAt w1 a n ms) (h2 : MsAt w1 b n ms) => same_any a b n ca cb ms w1 h1 h2 (by omega))
    simp only [← hn] at C1 C2
    have C1 := Lib.hid C1
    have C2 := Lib.hid C2
    clear hd hl40 hn
    go_enter Tryd.func3, Tryd.ntmps3
    go_wp2_with fail
    refine C1.out.mono ?_
    rintro e w1 ⟨a, ca, rfl, h1, b1⟩
    have HB1 := Lib.hid b1
    have HM1 := Lib.hid (HM.out.below b1)
    have HA1 := Lib.hid h1
    clear b1 h1
    go_wp2_with fail
    refine (C2.out _).mono ?_
    rintro e w2 ⟨b, cb, rfl, h2, b2⟩
    have HB2 := Lib.hid (HB1.out.trans (b2.mono HB1.out.size))
    have HM2 := Lib.hid (HM1.out.below b2)
    have HA2 := Lib.hid (HA1.out.below b2 (Nat.le_refl _))
    have HD2 := Lib.hid h2
    clear b2 h2
    go_wp2_with fail
    refine (AL.out _ HM2.out).mono ?_
    rintro e w3 ⟨rfl, b3⟩
    have HB3 := Lib.hid (HB2.out.trans (b3.mono HB2.out.size))
    have HA3 := Lib.hid (HA2.out.below b3 (Nat.le_refl _))
    have HD3 := Lib.hid (HD2.out.below b3 (Nat.le_refl _))
    clear b3
    go_wp2_with fail
    refine (C4.out _ _ _ _ _ HA3.out HD3.out).mono ?_
    rintro e w4 ⟨rfl, b4⟩
    have HB4 := Lib.hid (HB3.out.trans (b4.mono HB3.out.size))
    clear b4
    go_wp2_with fail
    go_ret
    exact ⟨rfl, HB4.out⟩
end Go.Proofs.YtbkjhogfpcmcbaaDoor
