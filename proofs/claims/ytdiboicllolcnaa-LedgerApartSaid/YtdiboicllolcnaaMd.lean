/- The walk of LedgerAll. Conditions: the script lies in memory. -/
import Derived.Test.YtdiboicllolcnaaMc
namespace Go.Proofs.Ytdiboicllolcnaa
open Go Go.RowKit Go.ChangeShapes Go.WideShapes Go.ChangeAt Go.Deep
set_option linter.unusedVariables false
set_option linter.unusedSimpArgs false
variable {w w' : World} {base n nd b0 : Nat} {V V' : Vl} {VD VD' : Vs} {D D' : Dk} {G G' : Lg}
theorem St5.stays {w0 wr : World} {M k : Nat} {s : List ByteArray × List ByteArray} (h : St5 w0 base n nd M wr k s V VD D G) (hk : ∀ j, j < wr.heap.size → OfL n nd V VD j → w'.heap[j]? = wr.heap[j]?) (hb : Below w0.heap.size w0 w') (hs : wr.heap.size ≤ w'.heap.size) : St5 w0 base n nd M w' k s V VD D G :=
  ⟨h.ldg.stays hk, h.inv, h.all, h.arm, h.mark, h.wait, hb, h.b0, Nat.le_trans h.b1 hs⟩
theorem Tv.stays {v : Value} {xs : List ByteArray} (h : Tv w v xs) {P : Nat → Prop} (ha : At v P) (hk : ∀ j, j < w.heap.size → P j → w'.heap[j]? = w.heap[j]?) (hs : w.heap.size ≤ w'.heap.size) : Tv w' v xs := by
  obtain ⟨ad, cap, rfl, ht⟩ := h
  refine ⟨ad, cap, rfl, ⟨?_, ht.nil, ht.cap⟩⟩
  by_cases h0 : xs.length = 0
  · exact ⟨rfl, ht.at_.2.1, .inl h0⟩
  · exact ht.at_.stays (fun b off e hb => hk b hb (ha _ _ _ rfl h0 b off e)) hs
theorem no_str (a d : Option Addr) (b c e f : Nat) : ∀ (j : Nat) (s : ByteArray), (#[Value.slice a b c, Value.slice d e f] : Array Value)[j]? ≠ some (Value.string s)
  | 0, s => by simp
  | 1, s => by simp
  | j + 2, s => by simp
/-- a slice of texts is no struct. -/
theorem Tv.notBox {v : Value} {xs : List ByteArray} (h : Tv w v xs) {b : Nat} {cs : Array Value} {T : TypeId} (hb : Box w b T cs) (hc : ∀ (j : Nat) (s : ByteArray), cs[j]? ≠ some (Value.string s)) : At v fun g => g ≠ b := by
  obtain ⟨ad, cap, rfl, ht⟩ := h
  refine At.mk fun h0 g off e => ?_
  obtain ⟨g', off', e', hg, hcell⟩ := ht.at_.2.2.resolve_left h0
  rw [e] at e'
  injection e' with e'
  injection e' with e1 e2
  subst e1 e2
  rintro rfl
  obtain ⟨s, hs⟩ : ∃ s, xs[0]? = some s := ⟨_, List.getElem?_eq_getElem (by omega)⟩
  have := hcell 0 s hs
  rw [hb.cell] at this
  exact hc _ s this
set_option maxRecDepth 100000 in
set_option maxHeartbeats 8000000 in
theorem all_core (W : World) (m : Int) (a : Option Addr) (len cap : Nat) (xs : List In5) (hO : OpsAt W a len xs) (hm : len ≤ maxLen) :
    Calls Try.prog 7 #[.int .i64 m, .slice a len cap] W fun e W' => e = .returned (.bool true) ∧ Below W.heap.size W W' := by
  have HO := Lib.hid hO
  have C1 := Lib.hid (few_any a len cap xs hO hm)
  have HLX := Lib.hid hO.len
  unfold maxLen at hm
  clear hO
  by_cases h4 : m < 4
  · go_enter Try.func7, Try.ntmps7
    go_wp2_with fail
    refine (alive_any (w := W)).mono ?_
    rintro e w2 ⟨rfl, b2⟩
    have HB2 := Lib.hid b2
    clear b2
    go_wp2_with fail
    go_ret
    exact ⟨rfl, HB2.out⟩
  by_cases h400 : 400 < m
  · go_enter Try.func7, Try.ntmps7
    go_wp2_with fail
    refine (alive_any (w := W)).mono ?_
    rintro e w2 ⟨rfl, b2⟩
    have HB2 := Lib.hid b2
    clear b2
    go_wp2_with fail
    go_ret
    exact ⟨rfl, HB2.out⟩
  obtain ⟨M, rfl⟩ := Int.eq_ofNat_of_zero_le (show 0 ≤ m by omega)
  cases hf : fewB xs with
  | false =>
    rw [hf] at C1
    clear hf
    go_enter Try.func7, Try.ntmps7
    go_wp2_with fail
    refine C1.out.mono ?_
    rintro e w1 ⟨rfl, b1⟩
    have HB1 := Lib.hid b1
    clear b1 C1
    go_wp2_with fail
    refine (alive_any (w := w1)).mono ?_
    rintro e w2 ⟨rfl, b2⟩
    have HB2 := Lib.hid (HB1.out.trans (b2.mono HB1.out.size))
    clear b2
    go_wp2_with fail
    go_ret
    exact ⟨rfl, HB2.out⟩
  | true =>
    rw [hf] at C1
    have HF := Lib.hid hf
    have hl120 : len ≤ 120 := by
      unfold fewB at hf
      rw [Bool.and_eq_true, decide_eq_true_iff] at hf
      rw [← HLX.out]; exact hf.1
    have HFA := Lib.hid (show ∀ x ∈ xs, x.o.all.length ≤ 2000 by
      unfold fewB at hf
      rw [Bool.and_eq_true, List.all_eq_true] at hf
      intro x hx
      have := hf.2 x hx
      simp at this
      omega)
    have hM4 : 4 ≤ M := by omega
    have hM400 : M ≤ 400 := by omega
    clear hf
    go_enter Try.func7, Try.ntmps7
    go_wp2_with fail
    refine C1.out.mono ?_
    rintro e w1 ⟨rfl, b1⟩
    have HB1 := Lib.hid b1
    have HO1 := Lib.hid (HO.out.below HB1.out (Nat.le_refl _))
    have C2 := Lib.hid (opened_any (w := w1) M hM4 (by omega))
    clear b1 C1
    go_wp2_with fail
    refine C2.out.mono ?_
    rintro e w2 ⟨nd, VD, n, V, rfl, hL, hR, b2⟩
    have hst0 := St5.start (w0 := w1) (Below.refl _ _) hL hR (by rw [newD_is _ (by omega)]) (by rw [newD_is _ (by omega)]) b2
    generalize newD ((M + 4 : Nat) : Int) = D0 at hst0
    obtain ⟨G0, hG0⟩ : ∃ G0, G0 = openedG 2 M 0 0 [] := ⟨_, rfl⟩
    rw [← hG0] at hst0
    have HST := Lib.hid (hst0.below ((Below.refl w2.heap.size w2).alloc (Nat.le_refl _) (.cells #[.slice none 0 0, .slice none 0 0] 56)))
    have HSB := Lib.hid (Box.new w2 56 #[.slice none 0 0, .slice none 0 0])
    obtain ⟨sB, hsB⟩ : ∃ sB, sB = w2.heap.size := ⟨_, rfl⟩
    rw [← hsB] at HSB
    have HSBG := Lib.hid (show w1.heap.size ≤ sB by rw [hsB]; exact b2.size)
    have HNV : ∀ (wz : World) (P : Nat → Prop), Tv wz (.slice none 0 0) ([] : List ByteArray) ∧ At (.slice none 0 0) P := fun wz P => ⟨⟨none, 0, rfl, ⟨rfl, by show 0 ≤ maxLen; unfold maxLen; omega, .inl rfl⟩, fun _ => rfl, Nat.le_refl _⟩, At.mk fun h0 => absurd rfl h0⟩
    have HNV := Lib.hid HNV
    clear hL hR b2 C2 HO hG0 hst0
    go_wp2_with fail
    rw [← hsB]
    clear hsB
    go_loopw [35] (fun i wr => ∃ (k : Nat) (s : List ByteArray × List ByteArray) (V : Vl) (VD : Vs) (D : Dk) (G : Lg) (vn vf : Value), k ≤ len ∧ i = .int .i64 k ∧ St5 w1 w1.heap.size n nd M wr k s V VD D G ∧ Box wr sB 56 #[vn, vf] ∧ Tv wr vn s.1 ∧ Tv wr vf s.2 ∧ At vn (fun g => ¬ OfL n nd V VD g) ∧ At vf (fun g => ¬ OfL n nd V VD g)) (fun i _ => len - (intOf i).toNat)
    case atStart => exact ⟨0, ([], []), _, _, _, _, _, _, Nat.zero_le _, rfl, HST.out, HSB.out, (HNV.out _ (fun _ => True)).1, (HNV.out _ (fun _ => True)).1, (HNV.out W _).2, (HNV.out W _).2⟩
    case round =>
      clear HST HSB HNV
      obtain ⟨k, s, Vk, VDk, Dk', Gk, vn, vf, hk, rfl, hst, hsb, htn, htf, han, haf⟩ := hrel
      have HST := Lib.hid hst
      have HSB := Lib.hid hsb
      have HTN := Lib.hid htn
      have HTF := Lib.hid htf
      have HAN := Lib.hid han
      have HAF := Lib.hid haf
      by_cases hlt : k < len
      · obtain ⟨b, off, x, rfl, hp, hb, hTx, c0, c1, c2⟩ := HO1.out.get k hlt
        have c0 := (hst.bel.cell (p := ⟨b, off + k * 3, none⟩) hb).trans c0
        have c1 := (hst.bel.cell (p := ⟨b, off + k * 3 + 1, none⟩) hb).trans c1
        have c2 := (hst.bel.cell (p := ⟨b, off + k * 3 + 2, none⟩) hb).trans c2
        have hbl : b < wr.heap.size := Nat.lt_of_lt_of_le hb hst.bel.size
        have hxl := HFA.out x (List.mem_of_getElem? hp)
        obtain ⟨L, hL⟩ : ∃ L, L = x.o.all.length := ⟨_, rfl⟩
        have hov : ov x.o x.ad x.cap = .agg #[.int .i64 x.o.kd, .string x.o.s, .slice x.ad L x.cap] := by rw [hL]
        rw [← hL] at c2
        have hba : Below wr.heap.size wr (wr.alloc (.cells #[.int .i64 x.o.kd, .string x.o.s, .slice x.ad L x.cap] 49)) := (Below.refl _ _).alloc (Nat.le_refl _) _
        have HBA := Lib.hid hba
        have HBX := Lib.hid (Box.new wr 49 #[.int .i64 x.o.kd, .string x.o.s, .slice x.ad L x.cap])
        have HTX := Lib.hid hTx
        have HOV := Lib.hid hov
        have HLL := Lib.hid hL
        have CR := Lib.hid (room_any (hst.below hba).ldg hst.inv.ok.fits)
        have HFR := Lib.hid (fair_step x.o M hst.inv.ok hst.inv.live hst.arm hst.inv.sz hM4)
        clear hst hsb htn htf han haf hp hTx hL hov hba
        go_wp2_with fail
        refine CR.out.mono ?_
        rintro e x1 ⟨rfl, b1⟩
        obtain ⟨R, hR⟩ : ∃ R, R = roomI Gk := ⟨_, rfl⟩
        rw [← hR] at HFR ⊢
        have h1 := (HST.out.below HBA.out).below b1
        have HST1 := Lib.hid h1
        have hbx := (b1.block wr.heap.size (by simp)).trans HBX.out
        have HBX1 := Lib.hid (show Box x1 wr.heap.size 49 #[.int .i64 x.o.kd, .string x.o.s, .slice x.ad L x.cap] from hbx)
        have HB01 := Lib.hid (HBA.out.trans (b1.mono (by simp)))
        have HSB1 := Lib.hid (show Box x1 sB 56 #[vn, vf] from (HB01.out.block sB HSB.out.lt).trans HSB.out)
        have HTN1 := Lib.hid (HTN.out.below HB01.out (Nat.le_refl _))
        have HTF1 := Lib.hid (HTF.out.below HB01.out (Nat.le_refl _))
        have o0 : x1.cell? ⟨wr.heap.size, 0, none⟩ = some (.int .i64 x.o.kd) := HBX1.out.cell 0
        have o1 : x1.cell? ⟨wr.heap.size, 1, none⟩ = some (.string x.o.s) := HBX1.out.cell 1
        have o2 : x1.cell? ⟨wr.heap.size, 2, none⟩ = some (.slice x.ad L x.cap) := HBX1.out.cell 2
        have ol : wr.heap.size < x1.heap.size := HBX1.out.lt
        have CD := h1.does x.o x.ad x.cap HTX.out hxl (by omega) (by omega)
        rw [HOV.out] at CD
        have CD := Lib.hid CD
        clear h1 b1 hbx CR hR c0 c1 c2
        go_wp2_with fail
        refine CD.out.mono ?_
        rintro e x2 ⟨V2, VD2, rfl, h2, g2⟩
        have HNS := Lib.hid (HST1.out.ldg.notBox HSB1.out (by decide) (by decide) (by decide) (by decide) (by decide) (by decide))
        have HNO := Lib.hid (HST1.out.ldg.notBox HBX1.out (by decide) (by decide) (by decide) (by decide) (by decide) (by decide))
        have HSB2 := Lib.hid (HSB1.out.touch g2.touch HNS.out)
        have HBX2 := Lib.hid (HBX1.out.touch g2.touch HNO.out)
        have htn2 := HTN1.out.goes HAN.out g2
        have htf2 := HTF1.out.goes HAF.out g2
        have HAN2 := Lib.hid (HAN.out.goes HTN1.out.lt g2)
        have HAF2 := Lib.hid (HAF.out.goes HTF1.out.lt g2)
        have HST2 := Lib.hid h2
        obtain ⟨r, hr⟩ : ∃ r, r = stepL x.o Dk' Gk := ⟨_, rfl⟩
        rw [← hr] at HST2 HFR
        rw [← hr]
        obtain ⟨rd, rg, re⟩ := r
        have HFR := Lib.hid (show fairP x.o M R re from HFR.out)
        have HST2 := Lib.hid (show St5 w1 w1.heap.size n nd M x2 (k + 1) (doN x.o re s) V2 VD2 rd rg from HST2.out)
        have s0 : x2.cell? ⟨sB, 0, none⟩ = some vn := HSB2.out.cell 0
        have s1 : x2.cell? ⟨sB, 1, none⟩ = some vf := HSB2.out.cell 1
        have sl : sB < x2.heap.size := HSB2.out.lt
        have o0 : x2.cell? ⟨wr.heap.size, 0, none⟩ = some (.int .i64 x.o.kd) := HBX2.out.cell 0
        have o1 : x2.cell? ⟨wr.heap.size, 1, none⟩ = some (.string x.o.s) := HBX2.out.cell 1
        have o2 : x2.cell? ⟨wr.heap.size, 2, none⟩ = some (.slice x.ad L x.cap) := HBX2.out.cell 2
        have ol : wr.heap.size < x2.heap.size := HBX2.out.lt
        have htx2 := HTX.out.below HST2.out.bel (Nat.le_refl _)
        have hcnt : s.1.length ≤ 10000000 := by
          have h8 := HST.out.inv.ok.count
          have h9 := size_le HST.out
          rw [HST.out.all] at h8
          omega
        have CO := do_any x.o re x.ad x.cap vn vf s htn2 htf2 htx2 hcnt
        rw [HOV.out, ← HLL.out] at CO
        obtain ⟨s', hs'⟩ : ∃ s', s' = doN x.o re s := ⟨_, rfl⟩
        rw [← hs'] at CO HST2
        have CO := Lib.hid CO
        obtain ⟨an, cn, hvn, _⟩ := htn2
        obtain ⟨af, cf, hvf, _⟩ := htf2
        obtain ⟨ln, hln⟩ : ∃ ln, ln = s.1.length := ⟨_, rfl⟩
        obtain ⟨lf, hlf⟩ : ∃ lf, lf = s.2.length := ⟨_, rfl⟩
        rw [← hln] at hvn
        rw [← hlf] at hvf
        subst hvn hvf
        clear hr h2 g2 CD htx2 hcnt hs' hln hlf HTN1 HTF1 HSB1 HBX1 HST1
        go_wp2_with fail
        refine CO.out.mono ?_
        rintro e x3 ⟨vn', vf', rfl, htn3, htf3, b3, hat⟩
        have hS3 : Box x3 sB 56 #[.slice an ln cn, .slice af lf cf] := (b3.block sB HSB2.out.lt).trans HSB2.out
        have hB3 : Box x3 wr.heap.size 49 #[.int .i64 x.o.kd, .string x.o.s, .slice x.ad L x.cap] := (b3.block _ HBX2.out.lt).trans HBX2.out
        have h3 := HST2.out.below b3
        have HAX := Lib.hid (show At (.slice x.ad L x.cap) (fun g => ¬ OfL n nd V2 VD2 g) from At.mk fun h0 => tx_apart HST2.out HTX.out (by rw [← HLL.out]; exact h0))
        obtain ⟨hn3, hf3⟩ := hat (fun g => ¬ OfL n nd V2 VD2 g) HAN2.out HAF2.out HAX.out (fun j hj _ ho => by have := HST2.out.ldg.of_lt j ho; omega)
        have hns3 := htn3.notBox hS3 (no_str _ _ _ _ _ _)
        have hfs3 := htf3.notBox hS3 (no_str _ _ _ _ _ _)
        have hnl := h3.ldg.notBox hS3 (by decide) (by decide) (by decide) (by decide) (by decide) (by decide)
        obtain ⟨an', cn', hvn, htn3'⟩ := htn3
        obtain ⟨af', cf', hvf, htf3'⟩ := htf3
        obtain ⟨ln', hln⟩ : ∃ ln, ln = s'.1.length := ⟨_, rfl⟩
        obtain ⟨lf', hlf⟩ : ∃ lf, lf = s'.2.length := ⟨_, rfl⟩
        rw [← hln] at hvn
        rw [← hlf] at hvf
        subst hvn hvf
        have f0 := hS3.frozen 0
        have f1 := hS3.frozen 1
        have s0 : x3.cell? ⟨sB, 0, none⟩ = some (.slice an ln cn) := hS3.cell 0
        have s1 : x3.cell? ⟨sB, 1, none⟩ = some (.slice af lf cf) := hS3.cell 1
        have sl : sB < x3.heap.size := hS3.lt
        have hhp : ∀ j, j ≠ sB → ((x3.setCell ⟨sB, 0, none⟩ (.slice an' ln' cn')).setCell ⟨sB, 1, none⟩ (.slice af' lf' cf')).heap[j]? = x3.heap[j]? := fun j hj => (Below.heap_setCell _ _ _ _ hj).trans (Below.heap_setCell _ _ _ _ hj)
        have hsz : x3.heap.size ≤ ((x3.setCell ⟨sB, 0, none⟩ (.slice an' ln' cn')).setCell ⟨sB, 1, none⟩ (.slice af' lf' cf')).heap.size := by simp [World.setCell]
        have HSB4 := Lib.hid ((hS3.set 0 (.slice an' ln' cn')).set 1 (.slice af' lf' cf'))
        have HBX4 := Lib.hid (show Box ((x3.setCell ⟨sB, 0, none⟩ (.slice an' ln' cn')).setCell ⟨sB, 1, none⟩ (.slice af' lf' cf')) wr.heap.size 49 #[.int .i64 x.o.kd, .string x.o.s, .slice x.ad L x.cap] from (hhp _ (fun e => by have hx := hB3; rw [e] at hx; unfold Box at hx hS3; rw [hS3] at hx; simp at hx)).trans hB3)
        have HST4 := Lib.hid (h3.stays (w' := ((x3.setCell ⟨sB, 0, none⟩ (.slice an' ln' cn')).setCell ⟨sB, 1, none⟩ (.slice af' lf' cf'))) (fun j _ ho => hhp j (fun e => hnl (e ▸ ho))) ((h3.bel.setCell (p := ⟨sB, 0, none⟩) HSBG.out _).setCell (p := ⟨sB, 1, none⟩) HSBG.out _) hsz)
        have htn4 : Tv ((x3.setCell ⟨sB, 0, none⟩ (.slice an' ln' cn')).setCell ⟨sB, 1, none⟩ (.slice af' lf' cf')) (.slice an' ln' cn') s'.1 := Tv.stays ⟨an', cn', by rw [hln], htn3'⟩ hns3 (fun j _ hj => hhp j hj) hsz
        have htf4 : Tv ((x3.setCell ⟨sB, 0, none⟩ (.slice an' ln' cn')).setCell ⟨sB, 1, none⟩ (.slice af' lf' cf')) (.slice af' lf' cf') s'.2 := Tv.stays ⟨af', cf', by rw [hlf], htf3'⟩ hfs3 (fun j _ hj => hhp j hj) hsz
        have HTN4 := Lib.hid htn4
        have HTF4 := Lib.hid htf4
        have HAN4 := Lib.hid hn3
        have HAF4 := Lib.hid hf3
        have HLN := Lib.hid hln
        clear b3 hat hS3 hB3 h3 hn3 hf3 hns3 hfs3 hnl htn3' htf3' hhp hsz htn4 htf4 hln hlf CO o0 o1 o2 ol HAN HAF HAN2 HAF2 HAX
        go_upto_region 13 with (fail)
        refine wp_name (fun X => Box X sB 56 #[.slice an' ln' cn', .slice af' lf' cf'] ∧ Box X wr.heap.size 49 #[.int .i64 x.o.kd, .string x.o.s, .slice x.ad L x.cap] ∧ St5 w1 w1.heap.size n nd M X (k + 1) s' V2 VD2 rd rg ∧ Tv X (.slice an' ln' cn') s'.1 ∧ Tv X (.slice af' lf' cf') s'.2) ⟨HSB4.out, HBX4.out, HST4.out, HTN4.out, HTF4.out⟩ ?_
        clear HSB4 HBX4 HST4 HTN4 HTF4 s0 s1 sl f0 f1
        rintro x4 ⟨q1, q2, q3, q4, q5⟩
        have HSB4 := Lib.hid q1
        have HBX4 := Lib.hid q2
        have HST4 := Lib.hid q3
        have HTN4 := Lib.hid q4
        have HTF4 := Lib.hid q5
        clear q1 q2 q3 q4 q5
        refine wp_region_steps (fun w' => w'.cell? ⟨wr.heap.size, 0, none⟩ = some (.int .i64 x.o.kd) ∧ w'.cell? ⟨wr.heap.size, 1, none⟩ = some (.string x.o.s) ∧ w'.cell? ⟨wr.heap.size, 2, none⟩ = some (.slice x.ad L x.cap) ∧ w'.cell? ⟨sB, 0, none⟩ = some (.slice an' ln' cn')) [(true, 0), (true, 1), (true, 2), (true, 3), (false, 4), (true, 5), (true, 6), (true, 7), (true, 9), (true, 10), (false, 8), (false, 11), (true, 12), (true, 13), (true, 14), (true, 15), (true, 17), (true, 18), (true, 19), (false, 16), (true, 20), (false, 21)] 21 _ _ (by kernel_rfl) rfl (by kernel_rfl) (by kernel_rfl) rfl (fun _ _ _ _ _ h => h) (⟨HBX4.out.cell 0, HBX4.out.cell 1, HBX4.out.cell 2, HSB4.out.cell 0⟩) ?_
        intro S HS
        simp only [pickS, List.getElem?_cons_zero, List.getElem?_cons_succ]
        refine wpSteps_head ?_
        go_big_quiet_want; apply quiet_value; (· (intro w' hw; obtain ⟨hA, hB, hC, hD⟩ := (HS.out _).1 hw; have hbl := World.block_lt_of_cell? _ _ hA; have hbl2 := World.block_lt_of_cell? _ _ hD; go_simp; try rfl)); simp only [Act.put, List.setIfInBounds_toArray, List.set_cons_succ, List.set_cons_zero]; go_big_quiet_on
        refine wpQuiet_nil ?_
        refine wpSteps_head ?_
        go_big_quiet_want; go_big_quiet_op; go_big_quiet_on
        refine wpQuiet_nil ?_
        refine wpSteps_head ?_
        go_big_quiet_want; go_big_quiet_op; go_big_quiet_on
        refine wpQuiet_nil ?_
        refine wpSteps_head ?_
        go_big_quiet_want; go_big_quiet_op; go_big_quiet_on
        refine wpQuiet_nil ?_
        refine wpSteps_more ?_
        go_wp2_with fail
        have CF := Lib.hid (fair_any (w := x4.drew) x.o M R re x.ad x.cap ((HTX.out.below HST4.out.bel (Nat.le_refl _)).below (Below.refl _ _).drew (Nat.le_refl _)) (by omega) (by omega) (by omega) HFR.out)
        refine (HOV.out ▸ CF.out).mono ?_
        rintro e x5 ⟨rfl, b5⟩
        have b5 := (Below.refl x4.heap.size x4).drew.trans b5
        have HSB5 := Lib.hid (show Box x5 sB 56 #[.slice an' ln' cn', .slice af' lf' cf'] from (b5.block sB HSB4.out.lt).trans HSB4.out)
        have HBX5 := Lib.hid (show Box x5 wr.heap.size 49 #[.int .i64 x.o.kd, .string x.o.s, .slice x.ad L x.cap] from (b5.block _ HBX4.out.lt).trans HBX4.out)
        have HST5 := Lib.hid (HST4.out.below b5)
        have HTN5 := Lib.hid (HTN4.out.below b5 (Nat.le_refl _))
        have HTF5 := Lib.hid (HTF4.out.below b5 (Nat.le_refl _))
        clear b5 CF HSB4 HBX4 HST4 HTN4 HTF4
        go_wp2_with fail
        refine ThenS.mk ((HS.out _).2 ⟨HBX5.out.cell 0, HBX5.out.cell 1, HBX5.out.cell 2, HSB5.out.cell 0⟩) ?_
        refine wpSteps_head ?_
        go_big_quiet_want; apply quiet_value; (· (intro w' hw; obtain ⟨hA, hB, hC, hD⟩ := (HS.out _).1 hw; have hbl := World.block_lt_of_cell? _ _ hA; have hbl2 := World.block_lt_of_cell? _ _ hD; go_simp; try rfl)); simp only [Act.put, List.setIfInBounds_toArray, List.set_cons_succ, List.set_cons_zero]; go_big_quiet_on
        refine wpQuiet_nil ?_
        refine wpSteps_head ?_
        go_big_quiet_want; go_big_quiet_op; go_big_quiet_on
        refine wpQuiet_nil ?_
        refine wpSteps_head ?_
        go_big_quiet_want; go_big_quiet_op; go_big_quiet_on
        refine wpQuiet_nil ?_
        refine wpSteps_head ?_
        go_big_quiet_want; apply quiet_value; (· (intro w' hw; obtain ⟨hA, hB, hC, hD⟩ := (HS.out _).1 hw; have hbl := World.block_lt_of_cell? _ _ hA; have hbl2 := World.block_lt_of_cell? _ _ hD; go_simp; try rfl)); simp only [Act.put, List.setIfInBounds_toArray, List.set_cons_succ, List.set_cons_zero]; go_big_quiet_on
        refine wpQuiet_nil ?_
        refine wpSteps_head ?_
        go_big_quiet_want; apply quiet_value; (· (intro w' hw; obtain ⟨hA, hB, hC, hD⟩ := (HS.out _).1 hw; have hbl := World.block_lt_of_cell? _ _ hA; have hbl2 := World.block_lt_of_cell? _ _ hD; go_simp; try rfl)); simp only [Act.put, List.setIfInBounds_toArray, List.set_cons_succ, List.set_cons_zero]; go_big_quiet_on
        refine wpQuiet_nil ?_
        refine wpSteps_more ?_
        go_wp2_with fail
        have hcnt : rg.all.length ≤ 100000000 := by have h8 := HST5.out.inv.ok.count; have h9 := size_le HST5.out; omega
        have CA := lall_any HST5.out.ldg hcnt
        rw [HST5.out.all, ← HLN.out] at CA
        refine CA.mono ?_
        rintro e x6 ⟨v6, rfl, o6, b6⟩
        have HSB6 := Lib.hid (show Box x6 sB 56 #[.slice an' ln' cn', .slice af' lf' cf'] from (b6.block sB HSB5.out.lt).trans HSB5.out)
        have HBX6 := Lib.hid (show Box x6 wr.heap.size 49 #[.int .i64 x.o.kd, .string x.o.s, .slice x.ad L x.cap] from (b6.block _ HBX5.out.lt).trans HBX5.out)
        have HST6 := Lib.hid (HST5.out.below b6)
        have HTN6 := Lib.hid (HTN5.out.below b6 (Nat.le_refl _))
        have HTF6 := Lib.hid (HTF5.out.below b6 (Nat.le_refl _))
        have HO6 := Lib.hid o6
        obtain ⟨a6, c6, rfl, _⟩ := own_shape o6
        clear b6 o6 CA hcnt HSB5 HBX5 HST5 HTN5 HTF5
        go_wp2_with fail
        refine ThenS.mk ((HS.out _).2 ⟨HBX6.out.cell 0, HBX6.out.cell 1, HBX6.out.cell 2, HSB6.out.cell 0⟩) ?_
        refine wpSteps_more ?_
        go_wp2_with fail
        have hlm : ln' ≤ maxLen := by have h8 := HST6.out.inv.ok.count; have h9 := size_le HST6.out; rw [HST6.out.all, ← HLN.out] at h8; unfold maxLen; omega
        have ht6 : Txs x6 an' ln' s'.1 := by obtain ⟨q1, q2, q3, q4⟩ := HTN6.out; injection q3 with e1 e2 e3; subst e1; rw [e2]; exact q4.at_
        refine (same_any a6 an' ln' ln' c6 cn' s'.1 s'.1 (txs_own HO6.out hlm) ht6).mono ?_
        rintro e x7 ⟨rfl, b7⟩
        have HSB7 := Lib.hid (show Box x7 sB 56 #[.slice an' ln' cn', .slice af' lf' cf'] from (b7.block sB HSB6.out.lt).trans HSB6.out)
        have HBX7 := Lib.hid (show Box x7 wr.heap.size 49 #[.int .i64 x.o.kd, .string x.o.s, .slice x.ad L x.cap] from (b7.block _ HBX6.out.lt).trans HBX6.out)
        have HST7 := Lib.hid (HST6.out.below b7)
        have HTN7 := Lib.hid (HTN6.out.below b7 (Nat.le_refl _))
        have HTF7 := Lib.hid (HTF6.out.below b7 (Nat.le_refl _))
        clear b7 ht6 hlm HO6 HSB6 HBX6 HST6 HTN6 HTF6
        go_wp2_with fail
        refine ThenS.mk ((HS.out _).2 ⟨HBX7.out.cell 0, HBX7.out.cell 1, HBX7.out.cell 2, HSB7.out.cell 0⟩) ?_
        refine wpSteps_head ?_
        go_big_quiet_want; apply quiet_value; (· (intro w' hw; obtain ⟨hA, hB, hC, hD⟩ := (HS.out _).1 hw; have hbl := World.block_lt_of_cell? _ _ hA; have hbl2 := World.block_lt_of_cell? _ _ hD; go_simp; try rfl)); simp only [Act.put, List.setIfInBounds_toArray, List.set_cons_succ, List.set_cons_zero]; go_big_quiet_on
        refine wpQuiet_nil ?_
        refine wpSteps_head ?_
        go_big_quiet_want; apply quiet_value; (· (intro w' hw; obtain ⟨hA, hB, hC, hD⟩ := (HS.out _).1 hw; have hbl := World.block_lt_of_cell? _ _ hA; have hbl2 := World.block_lt_of_cell? _ _ hD; go_simp; try rfl)); simp only [Act.put, List.setIfInBounds_toArray, List.set_cons_succ, List.set_cons_zero]; go_big_quiet_on
        refine wpQuiet_nil ?_
        refine wpSteps_head ?_
        go_big_quiet_want; go_big_quiet_op; go_big_quiet_on
        refine wpQuiet_nil ?_
        refine wpSteps_head ?_
        go_big_quiet_want; go_big_quiet_op; go_big_quiet_on
        refine wpQuiet_nil ?_
        refine wpSteps_head ?_
        go_big_quiet_want; apply quiet_value; (· (intro w' hw; obtain ⟨hA, hB, hC, hD⟩ := (HS.out _).1 hw; have hbl := World.block_lt_of_cell? _ _ hA; have hbl2 := World.block_lt_of_cell? _ _ hD; go_simp; try rfl)); simp only [Act.put, List.setIfInBounds_toArray, List.set_cons_succ, List.set_cons_zero]; go_big_quiet_on
        refine wpQuiet_nil ?_
        refine wpSteps_head ?_
        go_big_quiet_want; apply quiet_value; (· (intro w' hw; obtain ⟨hA, hB, hC, hD⟩ := (HS.out _).1 hw; have hbl := World.block_lt_of_cell? _ _ hA; have hbl2 := World.block_lt_of_cell? _ _ hD; go_simp; try rfl)); simp only [Act.put, List.setIfInBounds_toArray, List.set_cons_succ, List.set_cons_zero]; go_big_quiet_on
        refine wpQuiet_nil ?_
        refine wpSteps_head ?_
        go_big_quiet_want; apply quiet_value; (· (intro w' hw; obtain ⟨hA, hB, hC, hD⟩ := (HS.out _).1 hw; have hbl := World.block_lt_of_cell? _ _ hA; have hbl2 := World.block_lt_of_cell? _ _ hD; go_simp; try rfl)); simp only [Act.put, List.setIfInBounds_toArray, List.set_cons_succ, List.set_cons_zero]; go_big_quiet_on
        refine wpQuiet_nil ?_
        refine wpSteps_more ?_
        go_wp2_with fail
        have CL := llen_any HST7.out.ldg
        rw [HST7.out.all, ← HLN.out] at CL
        refine CL.mono ?_
        rintro e x8 ⟨rfl, rfl⟩
        clear CL
        go_wp2_with fail
        refine ThenS.mk ((HS.out _).2 ⟨HBX7.out.cell 0, HBX7.out.cell 1, HBX7.out.cell 2, HSB7.out.cell 0⟩) ?_
        refine wpSteps_head ?_
        go_big_quiet_want; apply quiet_value; (· (intro w' hw; obtain ⟨hA, hB, hC, hD⟩ := (HS.out _).1 hw; have hbl := World.block_lt_of_cell? _ _ hA; have hbl2 := World.block_lt_of_cell? _ _ hD; go_simp; try rfl)); simp only [Act.put, List.setIfInBounds_toArray, List.set_cons_succ, List.set_cons_zero]; go_big_quiet_on
        refine wpQuiet_nil ?_
        refine wpSteps_last ?_
        go_wp2_with fail
        go_roundw
        case rel => exact ⟨k + 1, s', _, _, _, _, _, _, by omega, by go_num, HST7.out, HSB7.out, HTN7.out, HTF7.out, HAN4.out, HAF4.out⟩
        case measure => simp [intOf]; omega
      · obtain rfl : len = k := by omega
        clear hlt HO1 HFA
        obtain ⟨all, hall⟩ : ∃ all, all = Gk.all := ⟨_, rfl⟩
        obtain ⟨q1, q2, q3⟩ := lives_sync hst.inv.ok hst.inv.live hst.arm
        obtain ⟨p1, p2, p3, p4⟩ := (sync_law hst.inv (by have := hst.mark; omega)).1 q1
        have hwt := hst.wait
        have hwb : len * (M + 2) ≤ 120 * 402 := Nat.mul_le_mul hl120 (by omega)
        have CS := lsync_any hst.ldg hst.b1 hst.inv.ok.fits hst.inv.ok.good hst.inv.ok.dead (by omega)
        unfold LsyPost at CS
        rw [q1] at CS
        obtain ⟨D5, hD5⟩ : ∃ D5, D5 = lsyD Dk' Gk := ⟨_, rfl⟩
        obtain ⟨G5, hG5⟩ : ∃ G5, G5 = lsyG Dk' Gk := ⟨_, rfl⟩
        rw [← hD5, ← hG5] at CS
        rw [← hD5, ← hG5, ← hall] at p1
        rw [← hG5] at p3
        rw [← hD5] at p4
        rw [← hG5] at q3
        have CS := Lib.hid CS
        have HR5 := Lib.hid p1
        have HM5 := Lib.hid (show G5.mark ≤ 1000 by rw [p3]; have := hst.mark; omega)
        have HW5 := Lib.hid p4
        have HD5 := Lib.hid (show D5.dead = false by rw [p1.ok.dead, q3])
        have HNS := Lib.hid (hst.ldg.notBox hsb (by decide) (by decide) (by decide) (by decide) (by decide) (by decide))
        have HAL := Lib.hid (show s.1 = all by rw [hall, hst.all])
        have HLB := Lib.hid (show all.length ≤ 100000 by have h8 := hst.inv.ok.count; have h9 := size_le hst; rw [hall]; omega)
        clear hst hsb htn htf han haf hall q1 q2 q3 p1 p2 p3 p4 hwt hwb hD5 hG5
        go_wp2_with fail
        refine CS.out.mono ?_
        rintro e x5 ⟨VD5, rfl, l5, g5⟩
        have HB5 := Lib.hid (g5.below HST.out.bel (Nat.le_refl _) (fun k hk => Nat.le_trans HST.out.b0 (HST.out.ldg.of_ge k hk)))
        have HSB5 := Lib.hid (HSB.out.touch g5.touch HNS.out)
        have HTN5 := Lib.hid (HTN.out.goes HAN.out g5)
        have C6 := Lib.hid (reopen_any (f := 2) (M := M) (m := G5.mark) (half := G5.half) (all := all) l5.dsk HB5.out.size HR5.out.ok.good HD5.out HW5.out HR5.out.snow HR5.out.short (by have := HM5.out; omega))
        simp only [if_true]
        clear l5 g5 CS
        go_wp2_with fail
        refine C6.out.mono ?_
        rintro e x6 ⟨n6, V6, rfl, l6, b6, hn6, hk6, _⟩
        have HB6 := Lib.hid (HB5.out.trans (b6.mono HB5.out.size))
        have HL6 := Lib.hid l6
        have HSB6 := Lib.hid (show Box x6 sB 56 #[vn, vf] from (b6.block sB HSB5.out.lt).trans HSB5.out)
        have htn6 := HTN5.out.below b6 (Nat.le_refl _)
        have HTN6 := Lib.hid htn6
        obtain ⟨an', cn', hvn, _⟩ := htn6
        obtain ⟨ln', hln⟩ : ∃ ln, ln = s.1.length := ⟨_, rfl⟩
        rw [← hln] at hvn
        subst hvn
        have HLN := Lib.hid hln
        clear l6 b6 hn6 hk6 hln C6
        go_upto_region 19 with (fail)
        refine wp_region_steps (fun w' => w'.cell? ⟨sB, 0, none⟩ = some (.slice an' ln' cn')) [(false, 0), (true, 1), (true, 2), (true, 3), (true, 4), (true, 5), (true, 6), (true, 8), (true, 9), (false, 7), (false, 10), (true, 11), (false, 12)] 12 _ _ (by kernel_rfl) rfl (by kernel_rfl) (by kernel_rfl) rfl (fun _ _ _ _ _ h => h) (HSB6.out.cell 0) ?_
        intro S HS
        simp only [pickS, List.getElem?_cons_zero, List.getElem?_cons_succ]
        refine wpSteps_more ?_
        go_wp2_with fail
        refine (alive_any (w := x6.drew)).mono ?_
        rintro e x7 ⟨rfl, b7⟩
        have b7 := (Below.refl x6.heap.size x6).drew.trans b7
        have HSB7 := Lib.hid (show Box x7 sB 56 #[.slice an' ln' cn', vf] from (b7.block sB HSB6.out.lt).trans HSB6.out)
        have HL7 := Lib.hid (HL6.out.bel b7)
        have HTN7 := Lib.hid (HTN6.out.below b7 (Nat.le_refl _))
        have HB7 := Lib.hid (HB6.out.trans (b7.mono HB6.out.size))
        clear b7 HSB6 HL6 HTN6
        go_wp2_with fail
        refine ThenS.mk ((HS.out _).2 (HSB7.out.cell 0)) ?_
        refine wpSteps_head ?_
        go_big_quiet_want; go_big_quiet_op; go_big_quiet_on
        refine wpQuiet_nil ?_
        refine wpSteps_head ?_
        go_big_quiet_want; go_big_quiet_op; go_big_quiet_on
        refine wpQuiet_nil ?_
        refine wpSteps_head ?_
        go_big_quiet_want; apply quiet_value; (· (intro w' hw; have hD := (HS.out _).1 hw; have hbl2 := World.block_lt_of_cell? _ _ hD; go_simp; try rfl)); simp only [Act.put, List.setIfInBounds_toArray, List.set_cons_succ, List.set_cons_zero]; go_big_quiet_on
        refine wpQuiet_nil ?_
        refine wpSteps_head ?_
        go_big_quiet_want; apply quiet_value; (· (intro w' hw; have hD := (HS.out _).1 hw; have hbl2 := World.block_lt_of_cell? _ _ hD; go_simp; try rfl)); simp only [Act.put, List.setIfInBounds_toArray, List.set_cons_succ, List.set_cons_zero]; go_big_quiet_on
        refine wpQuiet_nil ?_
        refine wpSteps_head ?_
        go_big_quiet_want; go_big_quiet_op; go_big_quiet_on
        refine wpQuiet_nil ?_
        refine wpSteps_head ?_
        go_big_quiet_want; go_big_quiet_op; go_big_quiet_on
        refine wpQuiet_nil ?_
        refine wpSteps_head ?_
        go_big_quiet_want; apply quiet_value; (· (intro w' hw; have hD := (HS.out _).1 hw; have hbl2 := World.block_lt_of_cell? _ _ hD; go_simp; try rfl)); simp only [Act.put, List.setIfInBounds_toArray, List.set_cons_succ, List.set_cons_zero]; go_big_quiet_on
        refine wpQuiet_nil ?_
        refine wpSteps_head ?_
        go_big_quiet_want; apply quiet_value; (· (intro w' hw; have hD := (HS.out _).1 hw; have hbl2 := World.block_lt_of_cell? _ _ hD; go_simp; try rfl)); simp only [Act.put, List.setIfInBounds_toArray, List.set_cons_succ, List.set_cons_zero]; go_big_quiet_on
        refine wpQuiet_nil ?_
        refine wpSteps_more ?_
        go_wp2_with fail
        have CA := lall_any HL7.out (by show all.length ≤ _; have := HLB.out; omega)
        have CA : Calls Try.prog 20 #[.pointer (some ⟨n6, 0, none⟩)] x7 fun e w' => ∃ v', e = .returned v' ∧ w'.ownsRow x7.heap.size 9 1 v' ln' (all.map Value.string) ∧ Below x7.heap.size x7 w' := by rw [HLN.out, HAL.out]; exact CA
        refine CA.mono ?_
        rintro e x8 ⟨v8, rfl, o8, b8⟩
        have HSB8 := Lib.hid (show Box x8 sB 56 #[.slice an' ln' cn', vf] from (b8.block sB HSB7.out.lt).trans HSB7.out)
        have HL8 := Lib.hid (HL7.out.bel b8)
        have HTN8 := Lib.hid (HTN7.out.below b8 (Nat.le_refl _))
        have HB8 := Lib.hid (HB7.out.trans (b8.mono HB7.out.size))
        have HO8 := Lib.hid o8
        obtain ⟨a8, c8, rfl, _⟩ := own_shape o8
        clear b8 o8 CA HSB7 HL7 HTN7
        go_wp2_with fail
        refine ThenS.mk ((HS.out _).2 (HSB8.out.cell 0)) ?_
        refine wpSteps_more ?_
        go_wp2_with fail
        have hlm : ln' ≤ maxLen := by have := HLB.out; rw [HLN.out, HAL.out]; unfold maxLen; omega
        have ht8 : Txs x8 an' ln' all := by obtain ⟨q1, q2, q3, q4⟩ := HTN8.out; injection q3 with e1 e2 e3; subst e1; rw [e2, ← HAL.out]; exact q4.at_
        refine (same_any a8 an' ln' ln' c8 cn' all all (txs_own HO8.out hlm) ht8).mono ?_
        rintro e x9 ⟨rfl, b9⟩
        have HSB9 := Lib.hid (show Box x9 sB 56 #[.slice an' ln' cn', vf] from (b9.block sB HSB8.out.lt).trans HSB8.out)
        have HL9 := Lib.hid (HL8.out.bel b9)
        have HTN9 := Lib.hid (HTN8.out.below b9 (Nat.le_refl _))
        have HB9 := Lib.hid (HB8.out.trans (b9.mono HB8.out.size))
        clear b9 ht8 hlm HO8 HSB8 HL8 HTN8
        go_wp2_with fail
        refine ThenS.mk ((HS.out _).2 (HSB9.out.cell 0)) ?_
        refine wpSteps_head ?_
        go_big_quiet_want; apply quiet_value; (· (intro w' hw; have hD := (HS.out _).1 hw; have hbl2 := World.block_lt_of_cell? _ _ hD; go_simp; try rfl)); simp only [Act.put, List.setIfInBounds_toArray, List.set_cons_succ, List.set_cons_zero]; go_big_quiet_on
        refine wpQuiet_nil ?_
        refine wpSteps_last ?_
        go_wp2_with fail
        go_ret
        exact ⟨rfl, HB1.out.trans (HB9.out.mono HB1.out.size)⟩
theorem ledgerAll_walk {H : Type} {enc : TypeId × Value → H} {base : Nat} {p1 : List MemPlace} (W : World) (a0 : Int) (_w0 : (Lit.int .i64 a0).wf = true) (v1 : Value) (d1 : DataW H) (hv : Value.okWide Try.prog W .any base 46 v1) (h : DataW.Trod enc Try.prog W 0 (fun _ => true) true 46 v1 d1 p1) (_b : ∀ n ∈ d1.weights Try.prog 46, n ≤ 140737488351232) :
    Calls Try.prog 7 #[.int .i64 a0, v1] W fun e W' => e = .returned (.bool true) ∧ Below W.heap.size W W' := by
  obtain ⟨a, len, cap, xs, rfl, hP, h1, h2⟩ := open_ops hv h
  exact all_core W a0 a len cap xs hP (by omega)
end Go.Proofs.Ytdiboicllolcnaa
