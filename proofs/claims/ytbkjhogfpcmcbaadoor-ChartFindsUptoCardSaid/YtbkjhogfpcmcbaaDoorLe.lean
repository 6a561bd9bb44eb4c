/- chart: ChartFinds' walk. Conditions: the bulk of what comes in is at most 1048576; the library's variable holds a number. -/
import Derived.Test.YtbkjhogfpcmcbaaDoorLd
import Derived.Test.YtbkjhogfpcmcbaaDoorLb
import Derived.Test.YtbkjhogfpcmcbaaDoorKn
import Derived.Test.YtbkjhogfpcmcbaaDoorKt
namespace Go.Proofs.YtbkjhogfpcmcbaaDoor
open Go Go.RowKit Go.ChangeShapes Go.WideShapes Go.ChangeAt Go.Deep Zn
set_option linter.unusedVariables false
set_option linter.unusedSimpArgs false
variable {w w' : World}
def hit (R : List Nm) (q : ByteArray) (V : Int) (x : Mt) : Bool := decide (joinAll x.p.data.toList R = q.data.toList) && decide (x.v = V)
theorem joinZ_len (p s : Nm) : (joinZ p s).length ≤ 489 := by
  unfold joinZ
  cases h : joinOk p s with
  | false => simp
  | true =>
    rw [if_pos rfl]
    unfold joinOk at h
    simp only [Bool.and_eq_true, decide_eq_true_eq] at h
    obtain ⟨⟨h1, h2⟩, h3⟩ := h
    obtain ⟨L, hL⟩ := valid_some h1
    rw [ls_of hL] at h3 ⊢
    obtain ⟨_, h8, hn⟩ := (names_iff _ _).1 hL
    exact path_len ((names_iff _ (L ++ [s])).2 ⟨rfl, by simp; omega, by rw [List.all_append, hn]; simp [h2]⟩)
theorem joinAll_len (p : Nm) (l : List Nm) : (joinAll p l).length ≤ max p.length 489 := by
  induction l generalizing p with
  | nil => exact Nat.le_max_left _ _
  | cons s l ih =>
    have := ih (joinZ p s)
    have := joinZ_len p s
    show (joinAll (joinZ p s) l).length ≤ _
    omega
set_option maxRecDepth 100000
set_option maxHeartbeats 4000000 in
theorem chartFinds_walk {H : Type} {enc : TypeId × Value → H} {p : List MemPlace} {base : Nat} (W : World) (hm : Mx W) (v0 : Value) (d0 : DataW H) (hv0 : Value.okWide Tryd.prog W .any base 26 v0) (h0 : DataW.Trod enc Tryd.prog W 0 (fun _ => true) true 26 v0 d0 p) (hd0 : Rows.uptoBulk d0 ≤ 1048576)
    (q : ByteArray) (_ws : q.size ≤ maxLen) (hq : q.size ≤ 1048576) :
    Calls Tryd.prog 5 #[v0, .string q] W fun e W' => e = .returned (.bool true) ∧ Below W.heap.size W W' := by
  obtain ⟨a, len, cap, ms, rfl, hA, hx, hlc, hcm⟩ := open_mounts hv0 h0 hd0
  clear hv0 h0 hd0 _ws
  have AL := Lib.hid (fun w1 (h : Mx w1) => alive_any w1 h)
  by_cases h60 : 60 < len
  · have q1 : decide ((60 : Int) < (len : Int)) = true := by rw [decide_eq_true_iff]; omega
    have A1 := Lib.hid (AL.out W hm)
    clear hA hx hm h60
    go_enter Tryd.func5, Tryd.ntmps5
    go_wp2_with fail
    refine A1.out.mono ?_
    rintro e w1 ⟨rfl, b1⟩
    have HB := Lib.hid b1
    clear b1 A1
    go_wp2_with fail
    go_ret
    exact ⟨rfl, HB.out⟩
  have q1 : decide ((60 : Int) < (len : Int)) = false := by rw [decide_eq_false_iff_not]; omega
  have hl60 : len ≤ 60 := by omega
  have hs2 : ∀ x ∈ ms, x.p.size ≤ 2000000 := fun x h => Nat.le_trans (hx x h) (by omega)
  have C1 := Lib.hid (own_any a len cap ms W hA (by omega))
  have HA := Lib.hid hA
  have HM := Lib.hid hm
  have HX := Lib.hid hx
  cases hf : findB ms q with
  | false =>
    have C2 := Lib.hid (fun b c w1 (hm : Mx w1) (h : MsAt w1 b len ms) => find_no (w := w1) b len c ms q h hs2 (by omega) hm (by omega) hf)
    have C3 := Lib.hid (fun w1 (h : MsAt w1 a len ms) => rfind_no a len cap ms q w1 h hs2 (by omega) (by omega) hf)
    have C4 := fun w1 => texts_same none none 0 0 [] w1 (.inl rfl) (.inl rfl) (by simp)
    rw [show List.length ([] : List Nm) = 0 from rfl] at C4
    have C4 := Lib.hid C4
    clear hA hm hx hs2 hf h60
    go_enter Tryd.func5, Tryd.ntmps5
    go_wp2_with fail
    refine C1.out.mono ?_
    rintro e w1 ⟨b, c, rfl, hb, b1⟩
    have HB1 := Lib.hid b1
    have HM1 := Lib.hid (HM.out.below b1)
    have HA1 := Lib.hid (HA.out.below b1 (Nat.le_refl _))
    have HO1 := Lib.hid hb
    clear b1 hb C1
    go_wp2_with fail
    refine (C2.out _ _ w1 HM1.out HO1.out).mono ?_
    rintro e w2 ⟨rfl, b2⟩
    have HB2 := Lib.hid (HB1.out.trans (b2.mono HB1.out.size))
    have HM2 := Lib.hid (HM1.out.below b2)
    have HA2 := Lib.hid (HA1.out.below b2 (Nat.le_refl _))
    clear b2 C2
    go_wp2_with fail
    refine (C3.out w2 HA2.out).mono ?_
    rintro e w3 ⟨rfl, b3⟩
    have HB3 := Lib.hid (HB2.out.trans (b3.mono HB2.out.size))
    have HM3 := Lib.hid (HM2.out.below b3)
    clear b3 C3
    go_wp2_with fail
    refine (C4.out w3).mono ?_
    rintro e w4 ⟨rfl, b4⟩
    have HB4 := Lib.hid (HB3.out.trans (b4.mono HB3.out.size))
    have HM4 := Lib.hid (HM3.out.below b4)
    clear b4 C4
    go_wp2_with fail
    refine (AL.out w4 HM4.out).mono ?_
    rintro e w5 ⟨rfl, b5⟩
    have HB5 := Lib.hid (HB4.out.trans (b5.mono HB4.out.size))
    clear b5
    go_wp2_with fail
    go_ret
    exact ⟨rfl, HB5.out⟩
  | true =>
    have C2 := Lib.hid (fun b c w1 (hm : Mx w1) (h : MsAt w1 b len ms) => find_yes (w := w1) b len c ms q h hs2 (by omega) hm (by omega) hf)
    have C3 := Lib.hid (fun w1 (h : MsAt w1 a len ms) => rfind_yes a len cap ms q w1 h hs2 (by omega) (by omega) hf)
    unfold FoundAt at C2 C3
    obtain ⟨R, hR⟩ : ∃ R, R = restOf ms q := ⟨_, rfl⟩
    obtain ⟨V, hV⟩ : ∃ V, V = (bestOf ms q).v := ⟨_, rfl⟩
    rw [← hR, ← hV] at C2 C3
    have hf2 := hf
    unfold findB at hf2
    obtain ⟨hc, hv⟩ := Bool.and_eq_true_iff.1 hf2
    obtain ⟨_, _, hr, _, _⟩ := check_parts hc
    have HJ := Lib.hid (show joinAll (bestOf ms q).p.data.toList R = q.data.toList by rw [hR]; exact best_joined hr hv)
    have HBI := Lib.hid (best_under hr hv).1
    have hR8 : R.length ≤ 8 := by rw [hR]; unfold restOf; rw [List.length_drop]; have := ls_len q.data.toList; omega
    have HRN := Lib.hid (show ∀ x ∈ R, x.length ≤ 60 from fun x hx => by
      rw [hR] at hx
      have := List.all_eq_true.1 (ls_names q.data.toList) x (List.mem_of_mem_drop hx)
      exact (name_len this).2)
    have C4 := Lib.hid (fun b1 b2 c1 c2 w1 h1 h2 => texts_same b1 b2 c1 c2 R w1 h1 h2 (by omega))
    have HVV := Lib.hid hV
    clear hA hm hx hs2 hf h60 hf2 hc hv hr hR hV
    go_enter Tryd.func5, Tryd.ntmps5
    go_wp2_with fail
    refine C1.out.mono ?_
    rintro e w1 ⟨b, c, rfl, hb, b1⟩
    have HB1 := Lib.hid b1
    have HM1 := Lib.hid (HM.out.below b1)
    have HA1 := Lib.hid (HA.out.below b1 (Nat.le_refl _))
    have HO1 := Lib.hid hb
    clear b1 hb C1
    go_wp2_with fail
    refine (C2.out _ _ w1 HM1.out HO1.out).mono ?_
    rintro e w2 ⟨r1, k1, rfl, hs1, b2⟩
    have HB2 := Lib.hid (HB1.out.trans (b2.mono HB1.out.size))
    have HM2 := Lib.hid (HM1.out.below b2)
    have HA2 := Lib.hid (HA1.out.below b2 (Nat.le_refl _))
    have HS2 := Lib.hid hs1
    clear b2 C2 hs1
    go_wp2_with fail
    refine (C3.out w2 HA2.out).mono ?_
    rintro e w3 ⟨r2, k2, rfl, hs2, b3⟩
    have HB3 := Lib.hid (HB2.out.trans (b3.mono HB2.out.size))
    have HM3 := Lib.hid (HM2.out.below b3)
    have HS3 := Lib.hid (HS2.out.below b3)
    have HT3 := Lib.hid hs2
    clear b3 C3 hs2
    go_wp2_with fail
    refine (C4.out _ _ _ _ w3 HS3.out HT3.out).mono ?_
    rintro e w4 ⟨rfl, b4⟩
    have HB4 := Lib.hid (HB3.out.trans (b4.mono HB3.out.size))
    have HM4 := Lib.hid (HM3.out.below b4)
    have HS4 := Lib.hid (HS3.out.below b4)
    clear b4 C4
    go_wp2_with fail
    go_loopw [11, 57] (fun kn i wr => ∃ k : Nat, k ≤ len ∧ i = .int .i64 k ∧ kn = .bool ((ms.take k).any (hit R q V)) ∧ Below W.heap.size W wr ∧ Strs wr r1 R ∧ Mx wr) (fun _ i _ => len - (intOf i).toNat)
    case atStart => exact ⟨0, Nat.zero_le _, rfl, rfl, HB4.out, HS4.out, HM4.out⟩
    case round =>
      obtain ⟨k, hk, rfl, rfl, hb, hS, hM⟩ := hrel
      have HB := Lib.hid hb
      have HSR := Lib.hid hS
      have HMR := Lib.hid hM
      obtain ⟨kn, hkn⟩ : ∃ kn, kn = (ms.take k).any (hit R q V) := ⟨_, rfl⟩
      rw [← hkn]
      have HKN := Lib.hid hkn
      clear hS hM hkn
      by_cases hlt : k < len
      · obtain ⟨b, off, x, rfl, hp, hbl, c0, c1⟩ := HA.out.get k hlt
        have c0 := (hb.cell (p := ⟨b, off + k * 2, none⟩) hbl).trans c0
        have c1 := (hb.cell (p := ⟨b, off + k * 2 + 1, none⟩) hbl).trans c1
        have hbw : b < wr.heap.size := Nat.lt_of_lt_of_le hbl hb.size
        have HP := Lib.hid hp
        have HXS := Lib.hid (HX.out x (List.mem_of_getElem? hp))
        have hba : Below wr.heap.size wr (wr.alloc (.cells #[.string x.p, .int .i64 x.v] 45)) := (Below.refl _ _).alloc (Nat.le_refl _) _
        have HBA := Lib.hid (HB.out.trans (hba.mono HB.out.size))
        have HSA := Lib.hid (HSR.out.below hba)
        have HMA := Lib.hid (HMR.out.below hba)
        have HBX := Lib.hid (Box.new wr 45 #[.string x.p, .int .i64 x.v])
        have HKX := Lib.hid (show (ms.take (k + 1)).any (hit R q V) = (kn || hit R q V x) by rw [List.take_add_one, hp, List.any_append, HKN.out]; simp)
        clear hp hb hba
        obtain ⟨n, hn⟩ : ∃ n, n = wr.heap.size := ⟨_, rfl⟩
        rw [← hn] at HBX
        go_wp2_with fail
        go_loopw [14, 65] (fun pv jj wr2 => ∃ j : Nat, j ≤ R.length ∧ jj = .int .i64 j ∧ pv = .string ⟨(joinAll x.p.data.toList (R.take j)).toArray⟩ ∧ Below W.heap.size W wr2 ∧ Strs wr2 r1 R ∧ Mx wr2 ∧ Box wr2 n 45 #[.string x.p, .int .i64 x.v]) (fun _ jj _ => R.length - (intOf jj).toNat)
        case atStart => exact ⟨0, Nat.zero_le _, rfl, rfl, HBA.out, HSA.out, HMA.out, HBX.out⟩
        case round =>
          obtain ⟨j, hj, rfl, rfl, hb2, hS2, hM2, hX2⟩ := hrel
          have HB2' := Lib.hid hb2
          have HSS2 := Lib.hid hS2
          have HMM2 := Lib.hid hM2
          have HXX2 := Lib.hid hX2
          obtain ⟨Pj, hPj⟩ : ∃ Pj : ByteArray, Pj = ⟨(joinAll x.p.data.toList (R.take j)).toArray⟩ := ⟨_, rfl⟩
          have hPd : Pj.data.toList = joinAll x.p.data.toList (R.take j) := by rw [hPj]
          have hPs : Pj.size ≤ 2000000 := by
            rw [Lib.size_eq, hPd]
            have h1 := joinAll_len x.p.data.toList (R.take j)
            have h2 := HXS.out
            rw [Lib.size_eq] at h2
            omega
          rw [← hPj]
          have HPD := Lib.hid hPd
          clear hS2 hM2
          by_cases hjl : j < R.length
          · obtain ⟨y, hy⟩ : ∃ y, R[j]? = some y := ⟨_, List.getElem?_eq_getElem hjl⟩
            obtain ⟨g, go, rfl, hg, hcy⟩ := HSS2.out.get j y hy
            have hys := HRN.out y (List.mem_of_getElem? hy)
            have C := fun w6 => rjoin_any Pj ⟨y.toArray⟩ w6 hPs (by show y.toArray.size ≤ _; rw [List.size_toArray]; omega)
            unfold JoinedTo at C
            rw [hPd, show (⟨y.toArray⟩ : ByteArray).data.toList = y from rfl] at C
            have hnx : joinZ (joinAll x.p.data.toList (R.take j)) y = joinAll x.p.data.toList (R.take (j + 1)) := by rw [List.take_add_one, hy]; exact (joinAll_snoc _ _ _).symm
            rw [hnx] at C
            generalize joinOk (joinAll x.p.data.toList (R.take j)) y = jo at C
            have C := Lib.hid C
            clear hy hPj hPd hnx hb2 hX2 hys
            go_wp2_with fail
            refine (C.out _).mono ?_
            rintro e w6 ⟨rfl, b6⟩
            have HB6 := Lib.hid (HB2'.out.trans (b6.mono HB2'.out.size))
            have HS6 := Lib.hid (HSS2.out.below b6)
            have HM6 := Lib.hid (HMM2.out.below b6)
            have HX6 := Lib.hid (HXX2.out.below b6 HXX2.out.lt)
            clear b6
            go_wp2_with fail
            go_roundw
            case rel => exact ⟨j + 1, by omega, by go_num, rfl, HB6.out, HS6.out, HM6.out, HX6.out⟩
            case measure => simp [intOf]; omega
          · have e1 : wr.cell? ⟨n, 1, none⟩ = some (.int .i64 x.v) := hX2.cell 1
            have hnl := hX2.lt
            rw [hn] at e1 hnl
            obtain rfl : j = R.length := by omega
            have HFIN := Lib.hid (show hit R q V x = ((Pj.toList == q.toList) && decide (x.v = V)) by
              unfold hit
              rw [Lib.toList_data, Lib.toList_data, HPD.out, List.take_length]
              congr 1
              rw [Bool.eq_iff_iff]
              simp)
            clear hPj hPd hb2 hX2
            cases kn with
            | true =>
              go_wp2_with fail
              go_roundw
              case rel => exact ⟨k + 1, by omega, by go_num, by rw [HKX.out, Bool.true_or], HB2'.out, HSS2.out, HMM2.out⟩
              case measure => simp [intOf]; omega
            | false =>
              cases hpq : (Pj.toList == q.toList) with
              | false =>
                go_wp2_with fail
                go_roundw
                case rel => exact ⟨k + 1, by omega, by go_num, by rw [HKX.out, HFIN.out, hpq, Bool.false_and, Bool.or_false], HB2'.out, HSS2.out, HMM2.out⟩
                case measure => simp [intOf]; omega
              | true =>
                by_cases hxv : x.v = V
                · have HH := Lib.hid (show hit R q V x = true by rw [HFIN.out, hpq, decide_eq_true hxv]; rfl)
                  have hxb : (x.v == V) = true := beq_iff_eq.2 hxv
                  clear hxv
                  go_wp2_with fail
                  go_roundw
                  case rel => exact ⟨k + 1, by omega, by go_num, by rw [HKX.out, HH.out, Bool.or_true], HB2'.out, HSS2.out, HMM2.out⟩
                  case measure => simp [intOf]; omega
                · have HH := Lib.hid (show hit R q V x = false by rw [HFIN.out, hpq, decide_eq_false hxv]; rfl)
                  have hxb : (x.v == V) = false := beq_eq_false_iff_ne.2 hxv
                  go_wp2_with fail
                  go_roundw
                  case rel => exact ⟨k + 1, by omega, by go_num, by rw [HKX.out, HH.out, Bool.or_false], HB2'.out, HSS2.out, HMM2.out⟩
                  case measure => simp [intOf]; omega
      · obtain rfl : k = len := by omega
        have HK1 := Lib.hid (show kn = true by
          rw [HKN.out, List.take_of_length_le (by have := HA.out.len; omega), List.any_eq_true]
          exact ⟨_, HBI.out, by unfold hit; rw [HJ.out, HVV.out]; simp⟩)
        have hk1 := HK1.out
        subst hk1
        clear hb
        go_wp2_with fail
        refine (AL.out wr HMR.out).mono ?_
        rintro e w6 ⟨rfl, b6⟩
        have HB6 := Lib.hid (HB.out.trans (b6.mono HB.out.size))
        clear b6
        go_wp2_with fail
        go_ret
        exact ⟨rfl, HB6.out⟩
end Go.Proofs.YtbkjhogfpcmcbaaDoor
