/- chart: texts; ChartRoots' walk. Conditions: the text has at most 1048576 bytes; the library's variable holds a number. -/
import Derived.Test.YtbkjhogfpcmcbaaDoorKk
namespace Go.Proofs.YtbkjhogfpcmcbaaDoor
open Go Go.RowKit Zn
set_option linter.unusedVariables false
set_option linter.unusedSimpArgs false
variable {w w' : World}
set_option maxHeartbeats 1000000 in
theorem texts_same (a b : Option Addr) (ca cb : Nat) (L : List Nm) (w : World) (h1 : Strs w a L) (h2 : Strs w b L) (hl : L.length ≤ 1000000) :
    Calls Tryd.prog 21 #[.slice a L.length ca, .slice b L.length cb] w fun e w' => e = .returned (.bool true) ∧ Below w.heap.size w w' := by
  obtain ⟨len, hlen⟩ : ∃ n, n = L.length := ⟨_, rfl⟩
  have H1 := Lib.hid h1
  have H2 := Lib.hid h2
  have HL := Lib.hid hlen
  rw [← hlen]
  have hl2 : len ≤ 1000000 := by omega
  clear h1 h2 hlen hl
  go_enter Tryd.func21, Tryd.ntmps21
  go_wp2_with fail
  go_loopw [13] (fun i wr => ∃ k : Nat, k ≤ len ∧ i = .int .i64 k ∧ Below w.heap.size w wr) (fun i _ => len - (intOf i).toNat)
  case atStart => exact ⟨0, Nat.zero_le _, rfl, Below.refl _ _⟩
  case round =>
    obtain ⟨k, hk, rfl, hb⟩ := hrel
    have HB := Lib.hid hb
    by_cases hlt : k < len
    · obtain ⟨x, hx⟩ : ∃ x, L[k]? = some x := ⟨_, List.getElem?_eq_getElem (by rw [← HL.out]; exact hlt)⟩
      obtain ⟨g, off, rfl, hg, hc⟩ := H1.out.get k x hx
      obtain ⟨g', off', rfl, hg', hc'⟩ := H2.out.get k x hx
      have c0 := (hb.cell (p := ⟨g, off + k, none⟩) hg).trans hc
      have c1 := (hb.cell (p := ⟨g', off' + k, none⟩) hg').trans hc'
      have hgl : g < wr.heap.size := Nat.lt_of_lt_of_le hg hb.size
      have hgl' : g' < wr.heap.size := Nat.lt_of_lt_of_le hg' hb.size
      clear hb hx hc hc' hg hg'
      go_upto_region 6 with (fail)
      go_quiet (fail)
      go_wp2_with fail
      go_roundw
      case rel => exact ⟨k + 1, by omega, by go_num, Below.drewN HB.out nq⟩
      case measure => simp [intOf]; omega
    · obtain rfl : k = len := by omega
      clear hb
      go_wp2_with fail
      go_ret
      exact ⟨rfl, HB.out⟩
def ms1 (v : Int) : List Mt := [⟨⟨#[47]⟩, v⟩]
theorem ms1_check (v : Int) : checkB (ms1 v) = (decide (1 ≤ v) && decide (v ≤ 999)) := by
  have h1 : rootB (ms1 v) = true := by unfold rootB ms1; simp
  have h2 : validZ [47] = true := rfl
  have h3 : anyBad (ms1 v) = (decide (v < 1) || decide (999 < v)) := by
    unfold anyBad ms1 badB
    rw [List.any_cons, List.any_nil, Bool.or_false]
    show (!validZ [47] || decide (v < 1) || decide (999 < v)) = _
    rw [h2]; rfl
  unfold checkB
  rw [h1, h3]
  unfold ms1 riseB
  rw [Bool.eq_iff_iff]
  simp
theorem ms1_under {v : Int} {q : ByteArray} (h : validZ q.data.toList = true) : underL (ms1 v) q 1 = ms1 v := by
  unfold underL ms1
  rw [show List.take 1 [(⟨⟨#[47]⟩, v⟩ : Mt)] = [⟨⟨#[47]⟩, v⟩] from rfl, List.filter_cons_of_pos (root_under rfl h)]
  rfl
theorem ms1_best {v : Int} {q : ByteArray} (h : validZ q.data.toList = true) : bestOf (ms1 v) q = ⟨⟨#[47]⟩, v⟩ := by
  unfold bestOf
  rw [show (ms1 v).length = 1 from rfl, ms1_under h]
  rfl
theorem ms1_rest {v : Int} {q : ByteArray} (h : validZ q.data.toList = true) : restOf (ms1 v) q = lsOf q.data.toList := by
  unfold restOf
  rw [ms1_best h]
  rfl
theorem ms1_at (v : Int) (w : World) : MsAt (w.alloc (.cells #[.string ⟨#[47]⟩, .int .i64 v] 53)) (some ⟨w.heap.size, 0, none⟩) 1 (ms1 v) := by
  have bx := Box.new w 53 #[.string ⟨#[47]⟩, .int .i64 v]
  refine ⟨rfl, .inr ⟨w.heap.size, 0, rfl, by simp, fun i r hr j u hu => ?_⟩⟩
  rw [show ((w.alloc (.cells #[.string ⟨#[47]⟩, .int .i64 v] 53))).cell? ⟨w.heap.size, 0 + i * 2 + j, none⟩ = _ from bx.cell _]
  match i, hr with
  | 0, hr =>
    obtain rfl : _ = r := Option.some.inj hr
    match j, hu with
    | 0, hu => exact hu
    | 1, hu => exact hu
set_option maxHeartbeats 1000000 in
theorem chartRoots_walk (W : World) (hm : Mx W) (v : Int) (_wv : (Lit.int .i64 v).wf = true) (q : ByteArray) (_wq : q.size ≤ maxLen) (hq : q.size ≤ 1048576) :
    Calls Tryd.prog 7 #[.int .i64 v, .string q] W fun e W' => e = .returned (.bool true) ∧ Below W.heap.size W W' := by
  clear _wv _wq
  have hb1 : Below W.heap.size W (W.alloc (.cells #[.string ⟨#[47]⟩, .int .i64 v] 53)) := (Below.refl _ _).alloc (Nat.le_refl _) _
  have HB := Lib.hid hb1
  have HM := Lib.hid (hm.below hb1)
  have HMS := Lib.hid (ms1_at v W)
  have AL := Lib.hid (fun w1 (h : Mx w1) => alive_any w1 h)
  have hsz : ∀ x ∈ ms1 v, x.p.size ≤ 2000000 := by intro x hx; simp only [ms1, List.mem_cons, List.not_mem_nil, or_false] at hx; subst hx; show (⟨#[47]⟩ : ByteArray).size ≤ 2000000; decide
  cases hf : findB (ms1 v) q with
  | false =>
    have C1 := Lib.hid (find_no (some ⟨W.heap.size, 0, none⟩) 1 1 (ms1 v) q HMS.out hsz (by omega) HM.out (by omega) hf)
    have C2 := Lib.hid (fun w1 => rnames_any q w1 (by omega))
    unfold RNamed at C2
    have hor : (¬ 1 ≤ v ∨ ¬ v ≤ 999) ∨ validZ q.data.toList = false := by
      unfold findB at hf
      rw [ms1_check] at hf
      have hf' : 1 ≤ v → v ≤ 999 → validZ q.data.toList = false := by simpa [Bool.and_eq_false_iff] using hf
      by_cases a : 1 ≤ v
      · by_cases b : v ≤ 999
        · exact .inr (hf' a b)
        · exact .inl (.inr b)
      · exact .inl (.inl a)
    obtain ⟨vq, hvq⟩ : ∃ b, b = validZ q.data.toList := ⟨_, rfl⟩
    rw [← hvq] at hor C2
    clear hb1 hm hsz hf hvq hq
    go_enter Tryd.func7, Tryd.ntmps7
    go_wp2_with fail
    refine C1.out.mono ?_
    rintro e w1 ⟨rfl, b1⟩
    have HB1 := Lib.hid (HB.out.trans (b1.mono HB.out.size))
    have HM1 := Lib.hid (HM.out.below b1)
    clear b1 C1
    go_wp2_with fail
    refine (C2.out w1).mono ?_
    rintro e w2 ⟨⟨a2, n2, c2, rfl, _⟩, b2⟩
    have HB2 := Lib.hid (HB1.out.trans (b2.mono HB1.out.size))
    have HM2 := Lib.hid (HM1.out.below b2)
    clear b2 C2
    by_cases h1 : v < 1
    · clear hor
      go_wp2_with fail
      refine (AL.out w2 HM2.out).mono ?_
      rintro e w3 ⟨rfl, b3⟩
      have HB3 := Lib.hid (HB2.out.trans (b3.mono HB2.out.size))
      clear b3
      go_wp2_with fail
      go_ret
      exact ⟨rfl, HB3.out⟩
    · by_cases h2 : 999 < v
      · clear hor
        go_wp2_with fail
        refine (AL.out w2 HM2.out).mono ?_
        rintro e w3 ⟨rfl, b3⟩
        have HB3 := Lib.hid (HB2.out.trans (b3.mono HB2.out.size))
        clear b3
        go_wp2_with fail
        go_ret
        exact ⟨rfl, HB3.out⟩
      · obtain rfl : vq = false := by
          rcases hor with (h | h) | h
          · omega
          · omega
          · exact h
        clear hor
        go_wp2_with fail
        refine (AL.out w2 HM2.out).mono ?_
        rintro e w3 ⟨rfl, b3⟩
        have HB3 := Lib.hid (HB2.out.trans (b3.mono HB2.out.size))
        clear b3
        go_wp2_with fail
        go_ret
        exact ⟨rfl, HB3.out⟩
  | true =>
    have C1 := find_yes (some ⟨W.heap.size, 0, none⟩) 1 1 (ms1 v) q HMS.out hsz (by omega) HM.out (by omega) hf
    have hf2 := hf
    unfold findB at hf2
    rw [ms1_check] at hf2
    simp only [Bool.and_eq_true, decide_eq_true_eq] at hf2
    obtain ⟨⟨h1, h2⟩, h3⟩ := hf2
    unfold FoundAt at C1
    rw [ms1_best h3, ms1_rest h3] at C1
    have C1 := Lib.hid C1
    obtain ⟨L, hL⟩ := valid_some h3
    have hl8 := ls_len q.data.toList
    have C2 := Lib.hid (fun w1 => rnames_yes q w1 (by omega) L hL)
    rw [ls_of hL] at C1 hl8
    have hl6 : L.length ≤ 1000000 := by omega
    have C3 := Lib.hid (fun a b ca cb w1 h h' => texts_same a b ca cb L w1 h h' hl6)
    have d1 : decide (v < 1) = false := by rw [decide_eq_false_iff_not]; omega
    have d2 : decide (999 < v) = false := by rw [decide_eq_false_iff_not]; omega
    clear hb1 hm hsz hf h1 h2 h3 hL hq hl8
    go_enter Tryd.func7, Tryd.ntmps7
    go_wp2_with fail
    refine C1.out.mono ?_
    rintro e w1 ⟨a1, c1, rfl, hs1, b1⟩
    have HB1 := Lib.hid (HB.out.trans (b1.mono HB.out.size))
    have HM1 := Lib.hid (HM.out.below b1)
    have HS1 := Lib.hid hs1
    clear b1 C1 hs1
    go_wp2_with fail
    refine (C2.out w1).mono ?_
    rintro e w2 ⟨a2, c2, rfl, _, hs2, _, b2⟩
    have HB2 := Lib.hid (HB1.out.trans (b2.mono HB1.out.size))
    have HM2 := Lib.hid (HM1.out.below b2)
    have HS2 := Lib.hid (HS1.out.below b2)
    have HS3 := Lib.hid hs2
    clear b2 C2 hs2
    go_wp2_with fail
    refine (AL.out w2 HM2.out).mono ?_
    rintro e w3 ⟨rfl, b3⟩
    have HB3 := Lib.hid (HB2.out.trans (b3.mono HB2.out.size))
    have HS4 := Lib.hid (HS2.out.below b3)
    have HS5 := Lib.hid (HS3.out.below b3)
    clear b3
    go_wp2_with fail
    refine (C3.out _ _ _ _ w3 HS4.out HS5.out).mono ?_
    rintro e w4 ⟨rfl, b4⟩
    have HB4 := Lib.hid (HB3.out.trans (b4.mono HB3.out.size))
    clear b4
    go_wp2_with fail
    go_ret
    exact ⟨rfl, HB4.out⟩
end Go.Proofs.YtbkjhogfpcmcbaaDoor
