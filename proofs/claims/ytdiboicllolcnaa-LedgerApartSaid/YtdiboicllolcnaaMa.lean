/- The walk of LedgerSame. Conditions: the script lies in memory. -/
import Derived.Test.YtdiboicllolcnaaLz
namespace Go.Proofs.Ytdiboicllolcnaa
open Go Go.RowKit Go.ChangeShapes Go.WideShapes Go.ChangeAt Go.Deep
set_option linter.unusedVariables false
set_option linter.unusedSimpArgs false
variable {w w' : World} {base n nd b0 : Nat} {V V' : Vl} {VD VD' : Vs} {D D' : Dk} {G G' : Lg}
theorem pair_open {H : Type} {enc : TypeId × Value → H} {W : World} {base : Nat} {v : Value} {d : DataW H} {p : List MemPlace} (hv : Value.okWide Try.prog W .any base 61 v) (h : DataW.Trod enc Try.prog W 0 (fun _ => true) true 61 v d p) : ∃ a b : Int, v = .agg #[.int .i64 a, .int .i64 b] := by
  simp only [Value.okWide, Try.underlying61] at hv
  obtain ⟨cs, rfl, h2, _⟩ := hv
  have k61 : Try.prog.cellsOf 61 = 2 := by kernel_rfl
  have k3 : Try.prog.cellsOf 3 = 1 := by kernel_rfl
  rw [k61] at h2
  obtain ⟨fuel, hf⟩ := h
  obtain ⟨xs, m, _, _, _, hl, hg⟩ := DataW.trod_array Try.underlying61 hf
  obtain ⟨l, hl2⟩ : ∃ l, l = cs.toList := ⟨_, rfl⟩
  have hll : l.length = 2 := by rw [hl2]; simpa using h2
  match l, hll with
  | [c0, c1], _ =>
    have hcs : cs = #[c0, c1] := by rw [← Array.toArray_toList (xs := cs), ← hl2]
    subst hcs
    match xs, hl with
    | [y0, y1], _ =>
      have h0 := hg 0 (by omega)
      have h1 := hg 1 (by omega)
      simp [k3, Value.cells] at h0 h1
      obtain ⟨a, ha, _⟩ := DataW.trod_int Try.underlying3 h0
      obtain ⟨b, hb, _⟩ := DataW.trod_int Try.underlying3 h1
      simp at ha hb
      exact ⟨a, b, by rw [ha, hb]⟩
theorem longB_rep {xs : List ByteArray} (ho : Okl D G) (hl : G.dead = false) (hx : xs = G.all) : repNo G xs = 0 := by
  unfold repNo
  have h1 := ho.fits.b
  rw [ho.enc] at h1
  rw [hx, if_neg (by rw [hl]; decide), if_neg (by rw [ho.short]; decide), if_neg (by omega)]
set_option maxRecDepth 100000 in
set_option maxHeartbeats 8000000 in
theorem same_core (W : World) (ka kb : Int) (a : Option Addr) (len cap : Nat) (xs : List In5) (hO : OpsAt W a len xs) (hm : len ≤ maxLen) :
    Calls Try.prog 8 #[.slice a len cap, .agg #[.int .i64 ka, .int .i64 kb]] W fun e W' => e = .returned (.bool true) ∧ Below W.heap.size W W' := by
  have hb0 : Below W.heap.size W (W.alloc (.cells #[.int .i64 ka, .int .i64 kb] 61)) := (Below.refl _ _).alloc (Nat.le_refl _) _
  have HBX := Lib.hid (Box.new W 61 #[.int .i64 ka, .int .i64 kb])
  have HB0 := Lib.hid hb0
  have HO := Lib.hid hO
  have C1 := Lib.hid (few_any a len cap xs (hO.below hb0 (Nat.le_refl _)) hm)
  have HLX := Lib.hid hO.len
  unfold maxLen at hm
  clear hO hb0
  cases hf : fewB xs with
  | false =>
    rw [hf] at C1
    clear hf
    go_enter Try.func8, Try.ntmps8
    go_wp2_with fail
    refine C1.out.mono ?_
    rintro e w1 ⟨rfl, b1⟩
    have HB1 := Lib.hid (HB0.out.trans (b1.mono HB0.out.size))
    clear b1 C1
    go_wp2_with fail
    refine (alive_any (w := w1)).mono ?_
    rintro e w2 ⟨rfl, b2⟩
    have HB2 := Lib.hid (HB1.out.trans (b2.mono HB1.out.size))
    clear b2
    go_wp2_with fail
    go_ret
    exact ⟨rfl, HB2.out⟩
  | true =>
    rw [hf] at C1
    have HF := Lib.hid hf
    have hl120 : len ≤ 120 := by
      unfold fewB at hf
      rw [Bool.and_eq_true, decide_eq_true_iff] at hf
      rw [← HLX.out]; exact hf.1
    have HFA := Lib.hid (show ∀ x ∈ xs, x.o.all.length ≤ 2000 by
      unfold fewB at hf
      rw [Bool.and_eq_true, List.all_eq_true] at hf
      intro x hx
      have := hf.2 x hx
      simp at this
      omega)
    clear hf
    go_enter Try.func8, Try.ntmps8
    go_wp2_with fail
    refine C1.out.mono ?_
    rintro e w1 ⟨rfl, b1⟩
    have HB1 := Lib.hid (HB0.out.trans (b1.mono HB0.out.size))
    have HBX1 := Lib.hid (show Box w1 W.heap.size 61 #[.int .i64 ka, .int .i64 kb] from (b1.block W.heap.size (by simp)).trans HBX.out)
    have HO1 := Lib.hid (HO.out.below HB1.out (Nat.le_refl _))
    have C2 := Lib.hid (opened_any (w := w1) 60 (by omega) (by omega))
    clear b1 C1 HBX
    go_wp2_with fail
    refine C2.out.mono ?_
    rintro e w2 ⟨nd, VD, n, V, rfl, hL, hR, b2⟩
    have HST := Lib.hid (St5.start (w0 := w1) (Below.refl _ _) hL hR (by rw [newD_is _ (by omega)]) (by rw [newD_is _ (by omega)]) b2)
    generalize newD ((60 + 4 : Nat) : Int) = D0 at HST
    obtain ⟨G0, hG0⟩ : ∃ G0, G0 = openedG 2 60 0 0 [] := ⟨_, rfl⟩
    rw [← hG0] at HST
    clear hL hR b2 C2 HO hG0
    go_wp2_with fail
    go_loopw [26] (fun i wr => ∃ (k : Nat) (s : List ByteArray × List ByteArray) (V : Vl) (VD : Vs) (D : Dk) (G : Lg), k ≤ len ∧ i = .int .i64 k ∧ St5 w1 w1.heap.size n nd 60 wr k s V VD D G) (fun i _ => len - (intOf i).toNat)
    case atStart => exact ⟨0, _, _, _, _, _, Nat.zero_le _, rfl, HST.out⟩
    case round =>
      clear HST
      obtain ⟨k, s, Vk, VDk, Dk', Gk, hk, rfl, hst⟩ := hrel
      have HST := Lib.hid hst
      by_cases hlt : k < len
      · obtain ⟨b, off, x, rfl, hp, hb, hTx, c0, c1, c2⟩ := HO1.out.get k hlt
        have c0 := (hst.bel.cell (p := ⟨b, off + k * 3, none⟩) hb).trans c0
        have c1 := (hst.bel.cell (p := ⟨b, off + k * 3 + 1, none⟩) hb).trans c1
        have c2 := (hst.bel.cell (p := ⟨b, off + k * 3 + 2, none⟩) hb).trans c2
        have hbl : b < wr.heap.size := Nat.lt_of_lt_of_le hb hst.bel.size
        have hxl := HFA.out x (List.mem_of_getElem? hp)
        have hba : Below wr.heap.size wr (wr.alloc (.cells #[.int .i64 x.o.kd, .string x.o.s, .slice x.ad x.o.all.length x.cap] 49)) := (Below.refl _ _).alloc (Nat.le_refl _) _
        have CD := Lib.hid ((hst.below hba).does x.o x.ad x.cap hTx hxl (by omega) (by omega))
        obtain ⟨L, hL⟩ : ∃ L, L = x.o.all.length := ⟨_, rfl⟩
        have hov : ov x.o x.ad x.cap = .agg #[.int .i64 x.o.kd, .string x.o.s, .slice x.ad L x.cap] := by rw [hL]
        rw [hov, ← hL] at CD
        rw [← hL] at c2
        clear hst hp hTx hxl hba hL hov HST
        go_wp2_with fail
        refine CD.out.mono ?_
        rintro e w5 ⟨V5, VD5, rfl, h5, _⟩
        have HST5 := Lib.hid h5
        obtain ⟨r, hr⟩ : ∃ r, r = stepL x.o Dk' Gk := ⟨_, rfl⟩
        rw [← hr] at HST5
        rw [← hr]
        obtain ⟨rd, rg, re⟩ := r
        clear h5 CD hr
        go_wp2_with fail
        go_roundw
        case rel => exact ⟨k + 1, _, _, _, _, _, by omega, by go_num, HST5.out⟩
        case measure => simp [intOf]; omega
      · obtain rfl : k = len := by omega
        clear hlt HO1 HFA
        obtain ⟨all, hall⟩ : ∃ all, all = Gk.all := ⟨_, rfl⟩
        obtain ⟨L, hL⟩ : ∃ L, L = all.length := ⟨_, rfl⟩
        have hLb : L ≤ 960 := by have := hst.inv.ok.count; have := size_le hst; rw [hL, hall]; omega
        have CA := lall_any hst.ldg (by rw [← hall, ← hL]; omega)
        rw [← hall, ← hL] at CA
        have CA := Lib.hid CA
        have HAL := Lib.hid hall
        have HLL := Lib.hid hL
        clear hst hall hL
        go_wp2_with fail
        refine CA.out.mono ?_
        rintro e w4 ⟨v4, rfl, o4, b4⟩
        have h4 := HST.out.below b4
        have HST4 := Lib.hid h4
        have hT4 := tv_own o4 (by unfold maxLen; omega) HLL.out.symm
        obtain ⟨a4, c4, e4, ht4⟩ := hT4
        rw [← HLL.out] at e4
        subst e4
        have hno := longB_rep h4.inv.ok h4.inv.live HAL.out
        obtain ⟨q1, q2, q3, q4⟩ := lives_rep all h4.inv.ok h4.inv.live h4.arm
        rw [hno] at q1
        obtain ⟨p1, p2, p3, p4⟩ := (rep_law h4.inv (by have := h4.mark; omega) hno).1 q1
        have hwt := h4.wait
        have hsz := size_le h4
        have hap : L ≠ 0 → ∀ g off, a4 = some ⟨g, off, none⟩ → ¬ OfL n nd Vk VDk g := fun _ g off e ho => by
          have h9 := (own_addr o4 e).1
          have h10 := HST.out.ldg.of_lt g ho
          omega
        have htx : Txs w4 a4 L all := by rw [HLL.out]; exact ht4.at_
        have CR := replace_any a4 L c4 all h4.ldg h4.b1 h4.inv.ok.fits h4.inv.ok.good h4.inv.ok.dead (by omega) htx ht4.nil (by rw [HLL.out]; exact ht4.cap) (by omega) hap
        unfold RepPost at CR
        rw [q1] at CR
        obtain ⟨D5, hD5⟩ : ∃ D5, D5 = repD Dk' Gk all := ⟨_, rfl⟩
        obtain ⟨G5, hG5⟩ : ∃ G5, G5 = repG Dk' Gk all := ⟨_, rfl⟩
        rw [← hD5, ← hG5] at CR
        rw [← hD5, ← hG5] at p1
        rw [← hG5] at p2 p3
        rw [← hD5] at p4
        have CR := Lib.hid CR
        have HR5 := Lib.hid p1
        have HA5 := Lib.hid p2
        have HM5 := Lib.hid (show G5.mark ≤ 1000 by rw [p3]; have := h4.mark; omega)
        have HW5 := Lib.hid (show D5.wait.length ≤ 10 by rw [p4]; exact Nat.zero_le _)
        have HO4 := Lib.hid o4
        have HTX := Lib.hid htx
        have HAP := Lib.hid hap
        clear o4 b4 h4 ht4 hno q1 q2 q3 q4 p1 p2 p3 p4 hwt hsz hap htx hD5 hG5 CA
        go_wp2_with fail
        refine CR.out.mono ?_
        rintro e w5 ⟨V5, VD5, rfl, l5, g5⟩
        have HL5 := Lib.hid l5
        have HB5 := Lib.hid (g5.below HST4.out.bel (Nat.le_refl _) (fun k hk => Nat.le_trans HST4.out.b0 (HST4.out.ldg.of_ge k hk)))
        have HT5 := Lib.hid (show Txs w5 a4 L all from by
          by_cases h0 : L = 0
          · exact ⟨HLL.out.symm, by unfold maxLen; omega, .inl h0⟩
          · exact HTX.out.stays (fun g off e hg => g5.touch.block g hg (HAP.out h0 g off e)) g5.touch.size)
        have hbx := HBX1.out
        have hbxl := hbx.lt
        have k0 : w5.cell? ⟨W.heap.size, 0, none⟩ = some (.int .i64 ka) := (HB5.out.cell (p := ⟨W.heap.size, 0, none⟩) hbxl).trans (hbx.cell 0)
        have k1 : w5.cell? ⟨W.heap.size, 1, none⟩ = some (.int .i64 kb) := (HB5.out.cell (p := ⟨W.heap.size, 1, none⟩) hbxl).trans (hbx.cell 1)
        have hbxl5 : W.heap.size < w5.heap.size := Nat.lt_of_lt_of_le hbxl HB5.out.size
        have hb5 : w1.heap.size ≤ w5.heap.size := HB5.out.size
        have C6 := Lib.hid (crash_any ka kb l5.dsk hb5 HR5.out.ok.good (by have := HW5.out; omega))
        clear l5 g5 CR hbx hb5
        go_wp2_with fail
        refine C6.out.mono ?_
        rintro e w6 ⟨nd6, VD6, rfl, d6, b6⟩
        have HB6 := Lib.hid (HB5.out.trans (b6.mono HB5.out.size))
        have HL6 := Lib.hid (HL5.out.bel b6)
        have HT6 := Lib.hid (HT5.out.bel b6)
        have C7 := Lib.hid (reopen_any (f := 2) (M := 60) (m := G5.mark) (half := G5.half) (all := all) d6 b6.size (good_crash HR5.out.ok.good ka kb) rfl rfl (HR5.out.crash ka kb) HR5.out.short (by have := HM5.out; omega))
        clear d6 b6 C6 k0 k1
        go_wp2_with fail
        refine C7.out.mono ?_
        rintro e w7 ⟨n7, V7, rfl, l7, b7, hn7, hk7, _⟩
        have HB7 := Lib.hid (HB6.out.trans (b7.mono HB6.out.size))
        have HL7 := Lib.hid (HL6.out.bel b7)
        have HM7 := Lib.hid l7
        have HT7 := Lib.hid (HT6.out.bel b7)
        clear l7 b7 hn7 hk7 C7
        go_wp2_with fail
        refine (alive_any (w := w7)).mono ?_
        rintro e w8 ⟨rfl, b8⟩
        have HB8 := Lib.hid (HB7.out.trans (b8.mono HB7.out.size))
        have HL8 := Lib.hid (HL7.out.bel b8)
        have hm8 := HM7.out.bel b8
        have HT8 := Lib.hid (HT7.out.bel b8)
        have C9 : Calls Try.prog 20 #[.pointer (some ⟨n7, 0, none⟩)] w8 fun e w' => ∃ v', e = .returned v' ∧ w'.ownsRow w8.heap.size 9 1 v' L (all.map Value.string) ∧ Below w8.heap.size w8 w' := by
          rw [HLL.out]; exact lall_any hm8 (by show all.length ≤ _; rw [← HLL.out]; omega)
        have C9 := Lib.hid C9
        clear hm8 b8
        go_wp2_with fail
        refine C9.out.mono ?_
        rintro e w9 ⟨v9, rfl, o9, b9⟩
        have HB9 := Lib.hid (HB8.out.trans (b9.mono HB8.out.size))
        have HL9 := Lib.hid (HL8.out.bel b9)
        have ht9 := HT8.out.bel b9
        obtain ⟨a9, c9, rfl, _⟩ := own_shape o9
        have CS := Lib.hid (same_any a9 a4 L L c9 c4 all all (txs_own o9 (by unfold maxLen; omega)) ht9)
        have HT9 := Lib.hid ht9
        clear ht9 b9 o9 C9
        go_wp2_with fail
        refine CS.out.mono ?_
        rintro e w10 ⟨rfl, b10⟩
        have HB10 := Lib.hid (HB9.out.trans (b10.mono HB9.out.size))
        have hl10 := HL9.out.bel b10
        have HT10 := Lib.hid (HT9.out.bel b10)
        have C11 : Calls Try.prog 20 #[.pointer (some ⟨n, 0, none⟩)] w10 fun e w' => ∃ v', e = .returned v' ∧ w'.ownsRow w10.heap.size 9 1 v' L (all.map Value.string) ∧ Below w10.heap.size w10 w' := by
          have := lall_any hl10 (by rw [HA5.out, ← HLL.out]; omega)
          rw [HA5.out, ← HLL.out] at this
          exact this
        have C11 := Lib.hid C11
        clear hl10 b10 CS
        go_wp2_with fail
        refine C11.out.mono ?_
        rintro e w11 ⟨v11, rfl, o11, b11⟩
        have HB11 := Lib.hid (HB10.out.trans (b11.mono HB10.out.size))
        have ht11 := HT10.out.bel b11
        obtain ⟨a11, c11, rfl, _⟩ := own_shape o11
        have CT := Lib.hid (same_any a11 a4 L L c11 c4 all all (txs_own o11 (by unfold maxLen; omega)) ht11)
        clear ht11 b11 o11 C11
        go_wp2_with fail
        refine CT.out.mono ?_
        rintro e w12 ⟨rfl, b12⟩
        have HB12 := Lib.hid (HB1.out.trans ((HB11.out.trans (b12.mono HB11.out.size)).mono HB1.out.size))
        clear b12 CT
        go_wp2_with fail
        go_ret
        exact ⟨rfl, HB12.out⟩
theorem ledgerSame_walk {H : Type} {enc : TypeId × Value → H} {base0 base1 : Nat} {p0 p1 : List MemPlace} (W : World) (v0 : Value) (d0 : DataW H) (hv0 : Value.okWide Try.prog W .any base0 46 v0) (h0 : DataW.Trod enc Try.prog W 0 (fun _ => true) true 46 v0 d0 p0) (_b0 : ∀ n ∈ d0.weights Try.prog 46, n ≤ 140737488351232)
    (v1 : Value) (d1 : DataW H) (hv1 : Value.okWide Try.prog W .any base1 61 v1) (h1 : DataW.Trod enc Try.prog W 0 (fun _ => true) true 61 v1 d1 p1) (_b1 : ∀ n ∈ d1.weights Try.prog 61, n ≤ 140737488351232) :
    Calls Try.prog 8 #[v0, v1] W fun e W' => e = .returned (.bool true) ∧ Below W.heap.size W W' := by
  obtain ⟨a, len, cap, xs, rfl, hP, h2, h3⟩ := open_ops hv0 h0
  obtain ⟨ka, kb, rfl⟩ := pair_open hv1 h1
  exact same_core W ka kb a len cap xs hP (by omega)
end Go.Proofs.Ytdiboicllolcnaa
