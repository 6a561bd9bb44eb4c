/- The walk of LedgerOwn. Conditions: the script and the texts lie in memory. -/
import Derived.Test.YtdiboicllolcnaaMa
namespace Go.Proofs.Ytdiboicllolcnaa
open Go Go.RowKit Go.ChangeShapes Go.WideShapes Go.ChangeAt Go.Deep
set_option linter.unusedVariables false
set_option linter.unusedSimpArgs false
variable {w w' : World} {base n nd b0 : Nat} {V V' : Vl} {VD VD' : Vs} {D D' : Dk} {G G' : Lg}
set_option maxRecDepth 100000 in
set_option maxHeartbeats 8000000 in
theorem own_core (W : World) (a : Option Addr) (len cap : Nat) (xs : List In5) (hO : OpsAt W a len xs) (hm : len ≤ maxLen) (a1 : Option Addr) (la c1 : Nat) (ys : List ByteArray) (hY : TxIn W a1 c1 ys) (hla : la = ys.length) (hlm : la ≤ maxLen) :
    Calls Try.prog 6 #[.slice a len cap, .slice a1 la c1] W fun e W' => e = .returned (.bool true) ∧ Below W.heap.size W W' := by
  have HO := Lib.hid hO
  have C1 := Lib.hid (few_any a len cap xs hO hm)
  have HLX := Lib.hid hO.len
  have HY := Lib.hid hY
  have HLY := Lib.hid hla
  unfold maxLen at hm hlm
  clear hO hY hla
  cases hf : fewB xs with
  | false =>
    rw [hf] at C1
    clear hf
    go_enter Try.func6, Try.ntmps6
    go_wp2_with fail
    refine C1.out.mono ?_
    rintro e w1 ⟨rfl, b1⟩
    have HB1 := Lib.hid b1
    clear b1 C1
    go_wp2_with fail
    refine (alive_any (w := w1)).mono ?_
    rintro e w2 ⟨rfl, b2⟩
    have HB2 := Lib.hid (HB1.out.trans (b2.mono HB1.out.size))
    clear b2
    go_wp2_with fail
    go_ret
    exact ⟨rfl, HB2.out⟩
  | true =>
    rw [hf] at C1
    by_cases h60 : 60 < la
    · have h60' : (60 : Int) < (la : Int) := by omega
      clear hf
      go_enter Try.func6, Try.ntmps6
      go_wp2_with fail
      refine C1.out.mono ?_
      rintro e w1 ⟨rfl, b1⟩
      have HB1 := Lib.hid b1
      clear b1 C1
      go_wp2_with fail
      refine (alive_any (w := w1)).mono ?_
      rintro e w2 ⟨rfl, b2⟩
      have HB2 := Lib.hid (HB1.out.trans (b2.mono HB1.out.size))
      clear b2
      go_wp2_with fail
      go_ret
      exact ⟨rfl, HB2.out⟩
    have h60' : ¬ (60 : Int) < (la : Int) := by omega
    have HF := Lib.hid hf
    have hl120 : len ≤ 120 := by
      unfold fewB at hf
      rw [Bool.and_eq_true, decide_eq_true_iff] at hf
      rw [← HLX.out]; exact hf.1
    have HFA := Lib.hid (show ∀ x ∈ xs, x.o.all.length ≤ 2000 by
      unfold fewB at hf
      rw [Bool.and_eq_true, List.all_eq_true] at hf
      intro x hx
      have := hf.2 x hx
      simp at this
      omega)
    obtain ⟨i0, hi, hz0, hz1, hz2⟩ := info_parts row9
    have HI := Lib.hid hi
    have HZZ := Lib.hid hz0
    clear hf hi hz0
    go_enter Try.func6, Try.ntmps6
    go_wp2_with fail
    refine C1.out.mono ?_
    rintro e w1 ⟨rfl, b1⟩
    have HB1 := Lib.hid b1
    have HO1 := Lib.hid (HO.out.below HB1.out (Nat.le_refl _))
    have HY1 := Lib.hid (HY.out.below HB1.out (Nat.le_refl _))
    have C2 := Lib.hid (opened_any (w := w1) 60 (by omega) (by omega))
    clear b1 C1 HY
    go_wp2_with fail
    refine C2.out.mono ?_
    rintro e w2 ⟨nd, VD, n, V, rfl, hL, hR, b2⟩
    have HST := Lib.hid (St5.start (w0 := w1) (Below.refl _ _) hL hR (by rw [newD_is _ (by omega)]) (by rw [newD_is _ (by omega)]) b2)
    generalize newD ((60 + 4 : Nat) : Int) = D0 at HST
    obtain ⟨G0, hG0⟩ : ∃ G0, G0 = openedG 2 60 0 0 [] := ⟨_, rfl⟩
    rw [← hG0] at HST
    clear hL hR b2 C2 HO hG0
    go_wp2_with fail
    go_loopw [31] (fun i wr => ∃ (k : Nat) (s : List ByteArray × List ByteArray) (V : Vl) (VD : Vs) (D : Dk) (G : Lg), k ≤ len ∧ i = .int .i64 k ∧ St5 w1 w1.heap.size n nd 60 wr k s V VD D G) (fun i _ => len - (intOf i).toNat)
    case atStart => exact ⟨0, _, _, _, _, _, Nat.zero_le _, rfl, HST.out⟩
    case round =>
      clear HST
      obtain ⟨k, s, Vk, VDk, Dk', Gk, hk, rfl, hst⟩ := hrel
      have HST := Lib.hid hst
      by_cases hlt : k < len
      · obtain ⟨b, off, x, rfl, hp, hb, hTx, c0, c1, c2⟩ := HO1.out.get k hlt
        have c0 := (hst.bel.cell (p := ⟨b, off + k * 3, none⟩) hb).trans c0
        have c1 := (hst.bel.cell (p := ⟨b, off + k * 3 + 1, none⟩) hb).trans c1
        have c2 := (hst.bel.cell (p := ⟨b, off + k * 3 + 2, none⟩) hb).trans c2
        have hbl : b < wr.heap.size := Nat.lt_of_lt_of_le hb hst.bel.size
        have hxl := HFA.out x (List.mem_of_getElem? hp)
        have hba : Below wr.heap.size wr (wr.alloc (.cells #[.int .i64 x.o.kd, .string x.o.s, .slice x.ad x.o.all.length x.cap] 49)) := (Below.refl _ _).alloc (Nat.le_refl _) _
        have CD := Lib.hid ((hst.below hba).does x.o x.ad x.cap hTx hxl (by omega) (by omega))
        obtain ⟨L, hL⟩ : ∃ L, L = x.o.all.length := ⟨_, rfl⟩
        have hov : ov x.o x.ad x.cap = .agg #[.int .i64 x.o.kd, .string x.o.s, .slice x.ad L x.cap] := by rw [hL]
        rw [hov, ← hL] at CD
        rw [← hL] at c2
        clear hst hp hTx hxl hba hL hov HST
        go_wp2_with fail
        refine CD.out.mono ?_
        rintro e w5 ⟨V5, VD5, rfl, h5, _⟩
        have HST5 := Lib.hid h5
        obtain ⟨r, hr⟩ : ∃ r, r = stepL x.o Dk' Gk := ⟨_, rfl⟩
        rw [← hr] at HST5
        rw [← hr]
        obtain ⟨rd, rg, re⟩ := r
        clear h5 CD hr
        go_wp2_with fail
        go_roundw
        case rel => exact ⟨k + 1, _, _, _, _, _, by omega, by go_num, HST5.out⟩
        case measure => simp [intOf]; omega
      · obtain rfl : k = len := by omega
        clear hlt HO1 HFA
        obtain ⟨all, hall⟩ : ∃ all, all = Gk.all := ⟨_, rfl⟩
        obtain ⟨L, hL⟩ : ∃ L, L = all.length := ⟨_, rfl⟩
        have hLb : L ≤ 960 := by have := hst.inv.ok.count; have := size_le hst; rw [hL, hall]; omega
        have HAL := Lib.hid hall
        have HLL := Lib.hid hL
        have hb0 : Below wr.heap.size wr (wr.alloc (.cells #[] 9)) := (Below.refl _ _).alloc (Nat.le_refl _) _
        have HB0 := Lib.hid hb0
        have HO1 := Lib.hid (World.ownsRow_lit (base := wr.heap.size) (e := 9) (size := 1) wr #[] 0 (Nat.le_refl _) (by decide) rfl)
        have hs1 := (((HY1.out.below hst.bel (Nat.le_refl _)).below hb0 (Nat.le_refl _)).at_).src
        rw [← HLY.out] at hs1
        have HS1 := Lib.hid hs1
        have HSZ := Lib.hid (show wr.heap.size ≤ (wr.alloc (.cells #[] 9)).heap.size by simp)
        have hwk : ∃ wk : World, wk = wr := ⟨_, rfl⟩
        obtain ⟨wk, hwk⟩ := hwk
        have HWK := Lib.hid hwk
        clear hst hall hL hb0 hs1 hwk
        go_wp2_with (at_builtin; refine wpList_append_at rfl (.tmp 39) (.tmp 40) 42 rfl wr.heap.size 9 i0 _ 1 16 Try.underlying42 HI.out HZZ.out hz1 hz2 rfl (by decide) _ _ _ rfl HO1.out _ _ _ _ rfl HS1.out (by unfold maxLen; omega) (by omega) HSZ.out ?_)
        intro v3 w3 own3 g3 at3
        have og : w3.ownsRow wr.heap.size 9 1 v3 la (ys.map Value.string) := by simpa using own3
        have b3 := HB0.out.grown g3 HSZ.out (own_ge HO1.out)
        have h3 := HST.out.below b3
        have HST3 := Lib.hid h3
        have HOG := Lib.hid og
        obtain ⟨ag, cg, rfl, _⟩ := own_shape og
        have CA := lall_any h3.ldg (by rw [← HAL.out, ← HLL.out]; omega)
        rw [← HAL.out, ← HLL.out] at CA
        have CA := Lib.hid CA
        have HAPG := Lib.hid (show ∀ j, (Value.slice ag la cg).ownBlock = some j → ¬ OfL n nd Vk VDk j from fun j e ho => by
          have h1 := own_ge og j e
          have h2 := HST.out.ldg.of_lt j ho
          omega)
        have HAPX := Lib.hid (show la ≠ 0 → ∀ g off, ag = some ⟨g, off, none⟩ → ¬ OfL n nd Vk VDk g from fun _ g off e ho => by
          have h1 := (own_addr og e).1
          have h2 := HST.out.ldg.of_lt g ho
          omega)
        have HGL := Lib.hid (show ∀ j, (Value.slice ag la cg).ownBlock = some j → wr.heap.size ≤ j ∧ j < w3.heap.size from fun j e => ⟨own_ge og j e, own_lt og j e⟩)
        clear own3 g3 at3 og b3 h3 HO1 HS1 HSZ HB0
        go_wp2_with fail
        refine CA.out.mono ?_
        rintro e w4 ⟨v4, rfl, o4, b4⟩
        have h4 := HST3.out.below b4
        have HST4 := Lib.hid h4
        have HOG4 := Lib.hid (own_stays HOG.out (w' := w4) fun j hj => b4.block j (own_lt HOG.out j hj))
        have HOW4 := Lib.hid o4
        obtain ⟨aw0, cw0, rfl, _⟩ := own_shape o4
        have htv : Tv w4 (.slice ag la cg) ys := tv_own HOG4.out (by unfold maxLen; omega) HLY.out.symm
        obtain ⟨ag', cg', e4, ht4⟩ := htv
        rw [← HLY.out] at e4
        injection e4 with e41 e42 e43
        subst e41 e43
        have htx : Txs w4 ag la ys := by rw [HLY.out]; exact ht4.at_
        have hsz := size_le h4
        have hwt := h4.wait
        have CR := replace_any ag la cg ys h4.ldg h4.b1 h4.inv.ok.fits h4.inv.ok.good h4.inv.ok.dead (by omega) htx ht4.nil (by rw [HLY.out]; exact ht4.cap) (by omega) HAPX.out
        unfold RepPost at CR
        obtain ⟨q1, q2, q3, q4⟩ := lives_rep ys h4.inv.ok h4.inv.live h4.arm
        rw [q1] at CR
        have hkp := keeps_rep ys h4.inv.ok
        obtain ⟨E5, hE5⟩ : ∃ E5, E5 = repNo Gk ys := ⟨_, rfl⟩
        obtain ⟨D5, hD5⟩ : ∃ D5, D5 = repD Dk' Gk ys := ⟨_, rfl⟩
        obtain ⟨G5, hG5⟩ : ∃ G5, G5 = repG Dk' Gk ys := ⟨_, rfl⟩
        rw [← hE5, ← hD5, ← hG5] at CR
        rw [← hG5, ← hE5] at q4
        rw [← hD5, ← hG5] at hkp
        have CR := Lib.hid CR
        have HOK5 := Lib.hid hkp.ok
        have HYES := Lib.hid q4
        have HNO := Lib.hid (show E5 ≠ 0 → G5.all = Gk.all by
          intro e
          rw [hG5]
          unfold repG
          rw [if_pos (by rw [← hE5]; exact e)])
        clear o4 b4 h4 ht4 e42 htx hsz hwt hkp q1 q2 q3 q4 hE5 hD5 hG5 CA
        by_cases h0 : E5 = 0
        · subst h0
          have HFA := Lib.hid (HYES.out rfl)
          clear HYES HNO
          go_wp2_with fail
          refine CR.out.mono ?_
          rintro e w5 ⟨VX, VDX, rfl, l5, g5⟩
          have HB5 := Lib.hid (g5.below HST4.out.bel (Nat.le_refl _) (fun k hk => Nat.le_trans HST4.out.b0 (HST4.out.ldg.of_ge k hk)))
          have HG5 := Lib.hid (own_touch HOG4.out g5.touch (fun j hj ho => HAPG.out j hj ho))
          have HL5 := Lib.hid l5
          have HLI5 := Lib.hid g5.lies
          have HSZ5 := Lib.hid g5.touch.size
          have hb6 : Below w5.heap.size w5 (w5.alloc (.cells #[] 9)) := (Below.refl _ _).alloc (Nat.le_refl _) _
          have HB6 := Lib.hid hb6
          have HO6 := Lib.hid (World.ownsRow_lit (base := w5.heap.size) (e := 9) (size := 1) w5 #[] 0 (Nat.le_refl _) (by decide) rfl)
          have hs6 := (((HY1.out.below HB5.out (Nat.le_refl _)).below hb6 (Nat.le_refl _)).at_).src
          rw [← HLY.out] at hs6
          have HS6 := Lib.hid hs6
          have HSZ6 := Lib.hid (show w5.heap.size ≤ (w5.alloc (.cells #[] 9)).heap.size by simp)
          clear l5 g5 hb6 hs6 CR
          go_wp2_with (at_builtin; refine wpList_append_at rfl (.tmp 48) (.tmp 49) 42 rfl w5.heap.size 9 i0 _ 1 16 Try.underlying42 HI.out HZZ.out hz1 hz2 rfl (by decide) _ _ _ rfl HO6.out _ _ _ _ rfl HS6.out (by unfold maxLen; omega) (by omega) HSZ6.out ?_)
          intro v6 wX own6 g6 at6
          have ow : wX.ownsRow w5.heap.size 9 1 v6 la (ys.map Value.string) := by simpa using own6
          have b6 := HB6.out.grown g6 HSZ6.out (own_ge HO6.out)
          obtain ⟨LF, hLF⟩ : ∃ LF, LF = la := ⟨_, rfl⟩
          obtain ⟨F, hF⟩ : ∃ F, F = ys := ⟨_, rfl⟩
          rw [← hF] at HFA
          rw [← hLF, ← hF] at ow
          have HLF := Lib.hid (show LF = F.length by rw [hLF, hF]; exact HLY.out)
          have HG := Lib.hid (own_stays HG5.out (w' := wX) fun j hj => b6.block j (own_lt HG5.out j hj))
          have HLX := Lib.hid (HL5.out.bel b6)
          have HBX := Lib.hid (HB5.out.trans (b6.mono HB5.out.size))
          have HWT := Lib.hid ow
          have hLFb : LF ≤ 1000 := by omega
          have HNG := Lib.hid (show ∀ j, (Value.slice ag la cg).ownBlock = some j → ¬ OfL n nd VX VDX j from fun j e ho => by
            rcases HLI5.out j ho with h1 | h1
            · exact HAPG.out j e h1
            · have h2 := own_lt HOG4.out j e; omega)
          have HNW := Lib.hid (show ∀ j, (Value.slice ag la cg).ownBlock = some j → v6.ownBlock ≠ some j from fun j e ho => by
            have h1 := own_ge ow j ho
            have h2 := own_lt HOG4.out j e
            have h3 := HSZ5.out
            omega)
          obtain ⟨B1, hB1⟩ : ∃ B1, B1 = wr.heap.size := ⟨_, rfl⟩
          rw [← hB1] at HG
          have HB1b := Lib.hid (show w1.heap.size ≤ B1 by rw [hB1]; exact HST.out.bel.size)
          obtain ⟨aw, cw, rfl, _⟩ := own_shape ow
          clear own6 g6 at6 ow b6 HO6 HS6 HSZ6 HB6 hF hB1
          clear hLF
          go_wp2_with fail
          go_loopw [53] (fun i wr => ∃ (k : Nat) (ys : List Value), k ≤ la ∧ i = .int .i64 k ∧ wr.ownsRow B1 9 1 (.slice ag la cg) la ys ∧ Touch (fun j => (Value.slice ag la cg).ownBlock = some j) wX wr) (fun i _ => la - (intOf i).toNat)
          case atStart => exact ⟨0, _, Nat.zero_le _, rfl, HG.out, Touch.refl _ _⟩
          case round =>
            obtain ⟨k, ys, hk, rfl, hO, hT⟩ := hrel
            have HO := Lib.hid hO
            have HT := Lib.hid hT
            by_cases hlt : k < la
            · obtain ⟨g, ha, hgb, hgl, hgc⟩ := own_at hO 0 (by omega)
              subst ha
              have hyl := hO.1
              obtain ⟨y, hy⟩ : ∃ y, ys[k]? = some y := ⟨_, List.getElem?_eq_getElem (by omega)⟩
              have hcell := hgc k y hy
              have hfr := own_free hO k
              have HN := Lib.hid (own_set hO k (by omega) (.string ⟨#[109, 105, 110, 101]⟩))
              have HNT := Lib.hid (hT.setCell (p := ⟨g, k, none⟩) rfl (.string ⟨#[109, 105, 110, 101]⟩))
              clear hO hT hgc hy hyl HO HT hgb
              go_wp2_with fail
              go_roundw
              case rel => exact ⟨k + 1, _, by omega, by go_num, HN.out, HNT.out⟩
              case measure => simp [intOf]; omega
            · obtain rfl : la = k := by omega
              clear hO hT hlt
              have HT1 := Lib.hid HT.out
              have HL1 := Lib.hid (HLX.out.stays (w' := wr) fun j hj ho => HT1.out.block j hj (fun e => HNG.out j e ho))
              have HW1 := Lib.hid (own_stays HWT.out (w' := wr) fun j hj => HT1.out.block j (own_lt HWT.out j hj) (fun e => HNW.out j e hj))
              have HB1' := Lib.hid (Below.touch HBX.out HT1.out (Nat.le_refl _) (fun j e => Nat.le_trans HB1b.out (own_ge HG.out j e)))
              have CA := lall_any HL1.out (by rw [HFA.out, ← HLF.out]; omega)
              rw [HFA.out, ← HLF.out] at CA
              have CA := Lib.hid CA
              clear HT HO HT1
              go_wp2_with fail
              refine CA.out.mono ?_
              rintro e x2 ⟨v2, rfl, o2, b2⟩
              have HL2 := Lib.hid (HL1.out.bel b2)
              have HW2 := Lib.hid (own_stays HW1.out (w' := x2) fun j hj => b2.block j (own_lt HW1.out j hj))
              have HB2 := Lib.hid (HB1'.out.trans (b2.mono HB1'.out.size))
              have HO2 := Lib.hid o2
              have HLT2 := Lib.hid (show ∀ j, v2.ownBlock = some j → ¬ OfL n nd VX VDX j from fun j e ho => by
                have h1 := own_ge o2 j e
                have h2 := HL1.out.of_lt j ho
                omega)
              have HLW2 := Lib.hid (show ∀ j, v2.ownBlock = some j → (Value.slice aw LF cw).ownBlock ≠ some j from fun j e ho => by
                have h1 := own_ge o2 j e
                have h2 := own_lt HW1.out j ho
                omega)
              obtain ⟨B3, hB3⟩ : ∃ B3, B3 = wr.heap.size := ⟨_, rfl⟩
              rw [← hB3] at HO2
              have HB3 := Lib.hid (show w1.heap.size ≤ B3 by rw [hB3]; exact HB1'.out.size)
              obtain ⟨a2, c2, rfl, _⟩ := own_shape o2
              clear o2 b2 CA hB3 HL1 HW1 HB1'
              go_wp2_with fail
              go_loopw [64] (fun i wr => ∃ (k : Nat) (ys : List Value), k ≤ LF ∧ i = .int .i64 k ∧ wr.ownsRow B3 9 1 (.slice a2 LF c2) LF ys ∧ Touch (fun j => (Value.slice a2 LF c2).ownBlock = some j) x2 wr) (fun i _ => LF - (intOf i).toNat)
              case atStart => exact ⟨0, _, Nat.zero_le _, rfl, HO2.out, Touch.refl _ _⟩
              case round =>
                obtain ⟨k, ys, hk, rfl, hO, hT⟩ := hrel
                have HO := Lib.hid hO
                have HT := Lib.hid hT
                by_cases hlt : k < LF
                · obtain ⟨g, ha, hgb, hgl, hgc⟩ := own_at hO 0 (by omega)
                  subst ha
                  have hyl := hO.1
                  obtain ⟨y, hy⟩ : ∃ y, ys[k]? = some y := ⟨_, List.getElem?_eq_getElem (by omega)⟩
                  have hcell := hgc k y hy
                  have hfr := own_free hO k
                  have HN := Lib.hid (own_set hO k (by omega) (.string ⟨#[109, 105, 110, 101]⟩))
                  have HNT := Lib.hid (hT.setCell (p := ⟨g, k, none⟩) rfl (.string ⟨#[109, 105, 110, 101]⟩))
                  clear hO hT hgc hy hyl HO HT hgb
                  go_wp2_with fail
                  go_roundw
                  case rel => exact ⟨k + 1, _, by omega, by go_num, HN.out, HNT.out⟩
                  case measure => simp [intOf]; omega
                · obtain rfl : LF = k := by omega
                  clear hO hT hlt
                  have HL3 := Lib.hid (HL2.out.stays (w' := wr) fun j hj ho => HT.out.block j hj (fun e => HLT2.out j e ho))
                  have HW3 := Lib.hid (own_stays HW2.out (w' := wr) fun j hj => HT.out.block j (own_lt HW2.out j hj) (fun e => HLW2.out j e hj))
                  have HB4 := Lib.hid (Below.touch HB2.out HT.out (Nat.le_refl _) (fun j e => Nat.le_trans HB3.out (own_ge HO2.out j e)))
                  clear HT HO
                  go_wp2_with fail
                  refine (alive_any (w := wr)).mono ?_
                  rintro e x4 ⟨rfl, b4⟩
                  have HB5 := Lib.hid (HB4.out.trans (b4.mono HB4.out.size))
                  have HL4 := Lib.hid (HL3.out.bel b4)
                  have HW4 := Lib.hid (own_stays HW3.out (w' := x4) fun j hj => b4.block j (own_lt HW3.out j hj))
                  have CA := lall_any HL4.out (by rw [HFA.out, ← HLF.out]; omega)
                  rw [HFA.out, ← HLF.out] at CA
                  have CA := Lib.hid CA
                  clear b4
                  go_wp2_with fail
                  refine CA.out.mono ?_
                  rintro e x5 ⟨v5, rfl, o5, b5⟩
                  have HB6 := Lib.hid (HB5.out.trans (b5.mono HB5.out.size))
                  have HW5 := own_stays HW4.out (w' := x5) fun j hj => b5.block j (own_lt HW4.out j hj)
                  obtain ⟨a5, c5, rfl, _⟩ := own_shape o5
                  have CS := Lib.hid (same_any a5 aw LF LF c5 cw F F (txs_own o5 (by unfold maxLen; omega)) (txs_own HW5 (by unfold maxLen; omega)))
                  clear HW5 b5 o5 CA
                  go_wp2_with fail
                  refine CS.out.mono ?_
                  rintro e x6 ⟨rfl, b6⟩
                  have HB7 := Lib.hid (HB1.out.trans ((HB6.out.trans (b6.mono HB6.out.size)).mono HB1.out.size))
                  clear b6 CS
                  go_wp2_with fail
                  go_ret
                  exact ⟨rfl, HB7.out⟩
        · have HFA := Lib.hid (HNO.out h0)
          have h0' : (E5 == 0) = false := by simpa using h0
          clear HYES HNO h0
          go_wp2_with fail
          refine CR.out.mono ?_
          rintro e wX ⟨VX, VDX, rfl, l5, g5⟩
          have HBX := Lib.hid (g5.below HST4.out.bel (Nat.le_refl _) (fun k hk => Nat.le_trans HST4.out.b0 (HST4.out.ldg.of_ge k hk)))
          have HG := Lib.hid (own_touch HOG4.out g5.touch (fun j hj ho => HAPG.out j hj ho))
          have HLX := Lib.hid l5
          have hbw := own_touch HOW4.out g5.touch (fun j hj ho => by
            have h1 := own_ge HOW4.out j hj
            have h2 := HST3.out.ldg.of_lt j ho
            omega)
          obtain ⟨LF, hLF⟩ : ∃ LF, LF = L := ⟨_, rfl⟩
          obtain ⟨F, hF⟩ : ∃ F, F = all := ⟨_, rfl⟩
          obtain ⟨aw, haw⟩ : ∃ aw, aw = aw0 := ⟨_, rfl⟩
          obtain ⟨cw, hcw⟩ : ∃ cw, cw = cw0 := ⟨_, rfl⟩
          rw [← HAL.out, ← hF] at HFA
          rw [← hLF, ← hF, ← haw, ← hcw] at hbw
          have HLF := Lib.hid (show LF = F.length by rw [hLF, hF]; exact HLL.out)
          have HWT := Lib.hid hbw
          have hLFb : LF ≤ 1000 := by omega
          have HNG := Lib.hid (show ∀ j, (Value.slice ag la cg).ownBlock = some j → ¬ OfL n nd VX VDX j from fun j e ho => by
            rcases g5.lies j ho with h1 | h1
            · exact HAPG.out j e h1
            · have h2 := own_lt HOG4.out j e; omega)
          have HNW := Lib.hid (show ∀ j, (Value.slice ag la cg).ownBlock = some j → (Value.slice aw LF cw).ownBlock ≠ some j from fun j e ho => by
            have h1 := own_ge hbw j ho
            have h2 := (HGL.out j e).2
            omega)
          obtain ⟨B1, hB1⟩ : ∃ B1, B1 = wr.heap.size := ⟨_, rfl⟩
          rw [← hB1] at HG
          have HB1b := Lib.hid (show w1.heap.size ≤ B1 by rw [hB1]; exact HST.out.bel.size)
          subst haw hcw hLF
          clear l5 g5 CR hbw hF hB1
          go_wp2_with fail
          go_loopw [53] (fun i wr => ∃ (k : Nat) (ys : List Value), k ≤ la ∧ i = .int .i64 k ∧ wr.ownsRow B1 9 1 (.slice ag la cg) la ys ∧ Touch (fun j => (Value.slice ag la cg).ownBlock = some j) wX wr) (fun i _ => la - (intOf i).toNat)
          case atStart => exact ⟨0, _, Nat.zero_le _, rfl, HG.out, Touch.refl _ _⟩
          case round =>
            obtain ⟨k, ys, hk, rfl, hO, hT⟩ := hrel
            have HO := Lib.hid hO
            have HT := Lib.hid hT
            by_cases hlt : k < la
            · obtain ⟨g, ha, hgb, hgl, hgc⟩ := own_at hO 0 (by omega)
              subst ha
              have hyl := hO.1
              obtain ⟨y, hy⟩ : ∃ y, ys[k]? = some y := ⟨_, List.getElem?_eq_getElem (by omega)⟩
              have hcell := hgc k y hy
              have hfr := own_free hO k
              have HN := Lib.hid (own_set hO k (by omega) (.string ⟨#[109, 105, 110, 101]⟩))
              have HNT := Lib.hid (hT.setCell (p := ⟨g, k, none⟩) rfl (.string ⟨#[109, 105, 110, 101]⟩))
              clear hO hT hgc hy hyl HO HT hgb
              go_wp2_with fail
              go_roundw
              case rel => exact ⟨k + 1, _, by omega, by go_num, HN.out, HNT.out⟩
              case measure => simp [intOf]; omega
            · obtain rfl : la = k := by omega
              clear hO hT hlt
              have HT1 := Lib.hid HT.out
              have HL1 := Lib.hid (HLX.out.stays (w' := wr) fun j hj ho => HT1.out.block j hj (fun e => HNG.out j e ho))
              have HW1 := Lib.hid (own_stays HWT.out (w' := wr) fun j hj => HT1.out.block j (own_lt HWT.out j hj) (fun e => HNW.out j e hj))
              have HB1' := Lib.hid (Below.touch HBX.out HT1.out (Nat.le_refl _) (fun j e => Nat.le_trans HB1b.out (own_ge HG.out j e)))
              have CA := lall_any HL1.out (by rw [HFA.out, ← HLF.out]; omega)
              rw [HFA.out, ← HLF.out] at CA
              have CA := Lib.hid CA
              clear HT HO HT1
              go_wp2_with fail
              refine CA.out.mono ?_
              rintro e x2 ⟨v2, rfl, o2, b2⟩
              have HL2 := Lib.hid (HL1.out.bel b2)
              have HW2 := Lib.hid (own_stays HW1.out (w' := x2) fun j hj => b2.block j (own_lt HW1.out j hj))
              have HB2 := Lib.hid (HB1'.out.trans (b2.mono HB1'.out.size))
              have HO2 := Lib.hid o2
              have HLT2 := Lib.hid (show ∀ j, v2.ownBlock = some j → ¬ OfL n nd VX VDX j from fun j e ho => by
                have h1 := own_ge o2 j e
                have h2 := HL1.out.of_lt j ho
                omega)
              have HLW2 := Lib.hid (show ∀ j, v2.ownBlock = some j → (Value.slice aw LF cw).ownBlock ≠ some j from fun j e ho => by
                have h1 := own_ge o2 j e
                have h2 := own_lt HW1.out j ho
                omega)
              obtain ⟨B3, hB3⟩ : ∃ B3, B3 = wr.heap.size := ⟨_, rfl⟩
              rw [← hB3] at HO2
              have HB3 := Lib.hid (show w1.heap.size ≤ B3 by rw [hB3]; exact HB1'.out.size)
              obtain ⟨a2, c2, rfl, _⟩ := own_shape o2
              clear o2 b2 CA hB3 HL1 HW1 HB1'
              go_wp2_with fail
              go_loopw [64] (fun i wr => ∃ (k : Nat) (ys : List Value), k ≤ LF ∧ i = .int .i64 k ∧ wr.ownsRow B3 9 1 (.slice a2 LF c2) LF ys ∧ Touch (fun j => (Value.slice a2 LF c2).ownBlock = some j) x2 wr) (fun i _ => LF - (intOf i).toNat)
              case atStart => exact ⟨0, _, Nat.zero_le _, rfl, HO2.out, Touch.refl _ _⟩
              case round =>
                obtain ⟨k, ys, hk, rfl, hO, hT⟩ := hrel
                have HO := Lib.hid hO
                have HT := Lib.hid hT
                by_cases hlt : k < LF
                · obtain ⟨g, ha, hgb, hgl, hgc⟩ := own_at hO 0 (by omega)
                  subst ha
                  have hyl := hO.1
                  obtain ⟨y, hy⟩ : ∃ y, ys[k]? = some y := ⟨_, List.getElem?_eq_getElem (by omega)⟩
                  have hcell := hgc k y hy
                  have hfr := own_free hO k
                  have HN := Lib.hid (own_set hO k (by omega) (.string ⟨#[109, 105, 110, 101]⟩))
                  have HNT := Lib.hid (hT.setCell (p := ⟨g, k, none⟩) rfl (.string ⟨#[109, 105, 110, 101]⟩))
                  clear hO hT hgc hy hyl HO HT hgb
                  go_wp2_with fail
                  go_roundw
                  case rel => exact ⟨k + 1, _, by omega, by go_num, HN.out, HNT.out⟩
                  case measure => simp [intOf]; omega
                · obtain rfl : LF = k := by omega
                  clear hO hT hlt
                  have HL3 := Lib.hid (HL2.out.stays (w' := wr) fun j hj ho => HT.out.block j hj (fun e => HLT2.out j e ho))
                  have HW3 := Lib.hid (own_stays HW2.out (w' := wr) fun j hj => HT.out.block j (own_lt HW2.out j hj) (fun e => HLW2.out j e hj))
                  have HB4 := Lib.hid (Below.touch HB2.out HT.out (Nat.le_refl _) (fun j e => Nat.le_trans HB3.out (own_ge HO2.out j e)))
                  clear HT HO
                  go_wp2_with fail
                  refine (alive_any (w := wr)).mono ?_
                  rintro e x4 ⟨rfl, b4⟩
                  have HB5 := Lib.hid (HB4.out.trans (b4.mono HB4.out.size))
                  have HL4 := Lib.hid (HL3.out.bel b4)
                  have HW4 := Lib.hid (own_stays HW3.out (w' := x4) fun j hj => b4.block j (own_lt HW3.out j hj))
                  have CA := lall_any HL4.out (by rw [HFA.out, ← HLF.out]; omega)
                  rw [HFA.out, ← HLF.out] at CA
                  have CA := Lib.hid CA
                  clear b4
                  go_wp2_with fail
                  refine CA.out.mono ?_
                  rintro e x5 ⟨v5, rfl, o5, b5⟩
                  have HB6 := Lib.hid (HB5.out.trans (b5.mono HB5.out.size))
                  have HW5 := own_stays HW4.out (w' := x5) fun j hj => b5.block j (own_lt HW4.out j hj)
                  obtain ⟨a5, c5, rfl, _⟩ := own_shape o5
                  have CS := Lib.hid (same_any a5 aw LF LF c5 cw F F (txs_own o5 (by unfold maxLen; omega)) (txs_own HW5 (by unfold maxLen; omega)))
                  clear HW5 b5 o5 CA
                  go_wp2_with fail
                  refine CS.out.mono ?_
                  rintro e x6 ⟨rfl, b6⟩
                  have HB7 := Lib.hid (HB1.out.trans ((HB6.out.trans (b6.mono HB6.out.size)).mono HB1.out.size))
                  clear b6 CS
                  go_wp2_with fail
                  go_ret
                  exact ⟨rfl, HB7.out⟩
theorem ledgerOwn_walk {H : Type} {enc : TypeId × Value → H} {base0 base1 : Nat} {p0 p1 : List MemPlace} (W : World) (v0 : Value) (d0 : DataW H) (hv0 : Value.okWide Try.prog W .any base0 46 v0) (h0 : DataW.Trod enc Try.prog W 0 (fun _ => true) true 46 v0 d0 p0) (_b0 : ∀ n ∈ d0.weights Try.prog 46, n ≤ 140737488351232)
    (v1 : Value) (d1 : DataW H) (hv1 : Value.okWide Try.prog W .any base1 42 v1) (h1 : DataW.Trod enc Try.prog W 0 (fun _ => true) true 42 v1 d1 p1) (_b1 : ∀ n ∈ d1.weights Try.prog 42, n ≤ 140737488351232) :
    Calls Try.prog 6 #[v0, v1] W fun e W' => e = .returned (.bool true) ∧ Below W.heap.size W W' := by
  obtain ⟨a, len, cap, xs, rfl, hP, h2, h3⟩ := open_ops hv0 h0
  obtain ⟨ad, c1, ys, rfl, hT, h4⟩ := open_texts hv1 h1
  exact own_core W a len cap xs hP (by omega) ad ys.length c1 ys hT rfl (Nat.le_trans hT.cap h4)
end Go.Proofs.Ytdiboicllolcnaa
