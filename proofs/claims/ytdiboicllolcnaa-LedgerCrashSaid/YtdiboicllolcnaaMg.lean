/- The walk of LedgerCrash. Conditions: the script and the picks lie in memory. -/
import Derived.Test.YtdiboicllolcnaaMf
namespace Go.Proofs.Ytdiboicllolcnaa
open Go Go.RowKit Go.ChangeShapes Go.WideShapes Go.ChangeAt Go.Deep
set_option linter.unusedVariables false
set_option linter.unusedSimpArgs false
variable {w w' : World} {base n nd b0 : Nat} {V V' : Vl} {VD VD' : Vs} {D D' : Dk} {G G' : Lg}
/-- picks that come in. -/
def pc (p : Int × Int) : List Value := [.int .i64 p.1, .int .i64 p.2]
def PicksAt (w : World) (a : Option Addr) (len : Nat) (ps : List (Int × Int)) : Prop := RowsAt w 2 a len (ps.map pc)
theorem PicksAt.get {a : Option Addr} {len : Nat} {ps : List (Int × Int)} (h : PicksAt w a len ps) (k : Nat) (hk : k < len) : ∃ b off p, a = some ⟨b, off, none⟩ ∧ b < w.heap.size ∧ w.cell? ⟨b, off + k * 2, none⟩ = some (.int .i64 (Prod.fst p)) ∧ w.cell? ⟨b, off + k * 2 + 1, none⟩ = some (.int .i64 (Prod.snd p)) := by
  obtain ⟨h1, h2⟩ := h
  obtain ⟨b, off, rfl, hb, hc⟩ := h2.resolve_left (by omega)
  have hl : ps.length = len := by rwa [List.length_map] at h1
  have hp : ps[k]? = some (ps[k]'(by omega)) := List.getElem?_eq_getElem (by omega)
  have hr : (ps.map pc)[k]? = some (pc (ps[k]'(by omega))) := by rw [List.getElem?_map, hp]; rfl
  exact ⟨b, off, _, rfl, hb, hc k _ hr 0 _ rfl, hc k _ hr 1 _ rfl⟩
theorem open_picks {H : Type} {enc : TypeId × Value → H} {W : World} {base : Nat} {v : Value} {d : DataW H} {p : List MemPlace} (hv : Value.okWide Try.prog W .any base 65 v) (h : DataW.Trod enc Try.prog W 0 (fun _ => true) true 65 v d p) :
    ∃ a len cap ps, v = .slice a len cap ∧ PicksAt W a len ps ∧ len ≤ cap ∧ cap ≤ maxLen := by
  obtain ⟨a, len, cap, rfl⟩ := okWide_slice Try.underlying65 hv
  have k61 : Try.prog.cellsOf 61 = 2 := by kernel_rfl
  have k3 : Try.prog.cellsOf 3 = 1 := by kernel_rfl
  obtain ⟨rows, hr, _, h1, h2, hs⟩ := open_rows Try.underlying65 k61 (by omega) h
  have hrow : ∀ r ∈ rows, ∃ p, r = pc p := by
    intro r hrm
    obtain ⟨hl, n, y, hy⟩ := hs r hrm
    obtain ⟨xs, m, _, _, _, hl2, hg⟩ := DataW.trod_array Try.underlying61 hy
    match r, hl with
    | [c0, c1], _ =>
      match xs, hl2 with
      | [y0, y1], _ =>
        have h0 := hg 0 (by omega)
        have h1 := hg 1 (by omega)
        simp [k3] at h0 h1
        obtain ⟨a, ha, _⟩ := DataW.trod_int Try.underlying3 h0
        obtain ⟨b, hb, _⟩ := DataW.trod_int Try.underlying3 h1
        simp at ha hb
        exact ⟨(a, b), by rw [ha, hb]; rfl⟩
  obtain ⟨ps, rfl⟩ : ∃ ps : List (Int × Int), rows = ps.map pc := by
    clear hr hs
    induction rows with
    | nil => exact ⟨[], rfl⟩
    | cons r l ih =>
      obtain ⟨p, rfl⟩ := hrow r (by simp)
      obtain ⟨ps, rfl⟩ := ih (fun r hr => hrow r (by simp [hr]))
      exact ⟨p :: ps, rfl⟩
  exact ⟨a, len, cap, ps, rfl, hr, h1, h2⟩
/-- a ledger behind k calls, on whatever disk. -/
structure St6 (w0 : World) (base n nd : Nat) (wr : World) (k : Nat) (s : List ByteArray × List ByteArray) (V : Vl) (VD : Vs) (D : Dk) (G : Lg) : Prop where
  ldg : Ldg wr base n nd V VD D G
  inv : RInv D G 2 60 s.2
  all : G.all = s.1
  mark : G.mark ≤ k
  wait : D.wait.length ≤ k * 62
  bel : Below w0.heap.size w0 wr
  b0 : w0.heap.size ≤ base
  b1 : base ≤ wr.heap.size
theorem St6.stays {w0 wr : World} {k : Nat} {s : List ByteArray × List ByteArray} (h : St6 w0 base n nd wr k s V VD D G) (hk : ∀ j, j < wr.heap.size → OfL n nd V VD j → w'.heap[j]? = wr.heap[j]?) (hb : Below w0.heap.size w0 w') (hs : wr.heap.size ≤ w'.heap.size) : St6 w0 base n nd w' k s V VD D G :=
  ⟨h.ldg.stays hk, h.inv, h.all, h.mark, h.wait, hb, h.b0, Nat.le_trans h.b1 hs⟩
theorem St6.below {w0 wr : World} {k : Nat} {s : List ByteArray × List ByteArray} (h : St6 w0 base n nd wr k s V VD D G) (hb : Below wr.heap.size wr w') : St6 w0 base n nd w' k s V VD D G :=
  h.stays (fun j hj _ => hb.block j hj) (h.bel.trans (hb.mono h.bel.size)) hb.size
theorem size6 {w0 wr : World} {k : Nat} {s : List ByteArray × List ByteArray} (h : St6 w0 base n nd wr k s V VD D G) : G.size = 29 := h.inv.sz
theorem St6.apart {w0 wr : World} {k : Nat} {s : List ByteArray × List ByteArray} (h : St6 w0 base n nd wr k s V VD D G) {ad : Option Addr} {cap : Nat} {xs : List ByteArray} (hx : TxIn w0 ad cap xs) : xs.length ≠ 0 → ∀ g off, ad = some ⟨g, off, none⟩ → ¬ OfL n nd V VD g := by
  intro h0 g off e ho
  obtain ⟨g', off', e', hg, _⟩ := hx.at_.2.2.resolve_left h0
  rw [e] at e'
  injection e' with e'
  injection e' with e'
  have := h.ldg.of_ge g ho
  have := h.b0
  omega
/-- what one call of the script leaves. -/
structure Left6 (w0 : World) (base n nd : Nat) (w' : World) (k : Nat) (s : List ByteArray × List ByteArray) (o : Op5) (V' : Vl) (VD' : Vs) (r : Dk × Lg × Int) : Prop where
  live : r.2.2 ≠ 40 → St6 w0 base n nd w' (k + 1) (doN o r.2.2 s) V' VD' r.1 r.2.1
  dsk : Dsk w' base nd VD' r.1
  good : Good r.1
  wait : r.1.wait.length ≤ (k + 1) * 62
  bel : Below w0.heap.size w0 w'
  b1 : base ≤ w'.heap.size
  dead : r.2.2 = 40 → ∀ keep tear, ∃ m' half' allX, SInv (crashL r.1 keep tear) 2 60 m' half' (encL allX) ∧ m' ≤ k + 1 ∧ longB allX = false ∧ (allX = s.2 ∨ allX = nextN o s)
theorem St6.does {w0 wr : World} {k : Nat} {s : List ByteArray × List ByteArray} (h : St6 w0 base n nd wr k s V VD D G) (o : Op5) (ad : Option Addr) (cap : Nat) (hx : TxIn w0 ad cap o.all) (hl : o.all.length ≤ 2000) (hk : k ≤ 300) :
    Calls Try.prog 22 #[.pointer (some ⟨n, 0, none⟩), ov o ad cap] wr fun e w' => ∃ V' VD', e = .returned (.int .i64 (stepL o D G).2.2) ∧ Left6 w0 base n nd w' k s o V' VD' (stepL o D G) ∧ Ldg w' base n nd V' VD' (stepL o D G).1 (stepL o D G).2.1 ∧ GoesL wr w' n nd V V' VD VD' := by
  have hw := h.wait
  have hm := h.mark
  refine (does_any o ad cap h.ldg h.b1 h.inv.ok (by omega) (hx.below h.bel (Nat.le_refl _)) hl (h.apart hx)).mono ?_
  rintro e w1 ⟨V', VD', he, hl1, g1⟩
  have hkp := keeps_step o h.inv.ok
  have hst := step_law o h.inv (by omega)
  have e4 : (G.all, s.2) = s := by rw [h.all]
  have hwt := hkp.wait
  have hsz := size6 h
  have hbel : Below w0.heap.size w0 w1 := g1.below h.bel (Nat.le_refl _) (fun k hk => Nat.le_trans h.b0 (h.ldg.of_ge k hk))
  refine ⟨V', VD', he, ⟨fun e1 => ?_, hl1.dsk, hkp.ok.good, by omega, hbel, Nat.le_trans h.b1 g1.touch.size, fun e1 keep tear => ?_⟩, hl1, g1⟩
  · obtain ⟨a1, a2, a3⟩ := hst.live e1
    rw [e4] at a1 a2
    exact ⟨hl1, a1, a2, by omega, by omega, hbel, h.b0, Nat.le_trans h.b1 g1.touch.size⟩
  · obtain ⟨_, a2⟩ := hst.dead e1
    rw [e4] at a2
    obtain ⟨m', half', allX, b1, b2, b3, b4⟩ := a2 keep tear
    exact ⟨m', half', allX, b1, by omega, b3, b4⟩
set_option maxRecDepth 100000 in
set_option maxHeartbeats 8000000 in
theorem crash_core (W : World) (a : Option Addr) (len cap : Nat) (xs : List In5) (hO : OpsAt W a len xs) (hm : len ≤ maxLen) (at_ : Int) (hat : at_ ≤ 9223372036854775807) (ap : Option Addr) (lp cp : Nat) (ps : List (Int × Int)) (hP : PicksAt W ap lp ps) (hpm : lp ≤ maxLen) :
    Calls Try.prog 9 #[.slice a len cap, .int .i64 at_, .slice ap lp cp] W fun e W' => e = .returned (.bool true) ∧ Below W.heap.size W W' := by
  have HO := Lib.hid hO
  have HP := Lib.hid hP
  have HAMX := Lib.hid hat
  have C1 := Lib.hid (few_any a len cap xs hO hm)
  have HLX0 := Lib.hid hO.len
  unfold maxLen at hm hpm
  clear hO hP hat
  cases hf : fewB xs with
  | false =>
    rw [hf] at C1
    clear hf
    go_enter Try.func9, Try.ntmps9
    go_wp2_with fail
    refine C1.out.mono ?_
    rintro e w1 ⟨rfl, b1⟩
    have HB1 := Lib.hid b1
    clear b1 C1
    go_wp2_with fail
    refine (alive_any (w := w1)).mono ?_
    rintro e w2 ⟨rfl, b2⟩
    have HB2 := Lib.hid (HB1.out.trans (b2.mono HB1.out.size))
    clear b2
    go_wp2_with fail
    go_ret
    exact ⟨rfl, HB2.out⟩
  | true =>
    rw [hf] at C1
    by_cases h50 : 50 < lp
    · have h50' : (50 : Int) < (lp : Int) := by omega
      clear hf
      go_enter Try.func9, Try.ntmps9
      go_wp2_with fail
      refine C1.out.mono ?_
      rintro e w1 ⟨rfl, b1⟩
      have HB1 := Lib.hid b1
      clear b1 C1
      go_wp2_with fail
      refine (alive_any (w := w1)).mono ?_
      rintro e w2 ⟨rfl, b2⟩
      have HB2 := Lib.hid (HB1.out.trans (b2.mono HB1.out.size))
      clear b2
      go_wp2_with fail
      go_ret
      exact ⟨rfl, HB2.out⟩
    have h50' : ¬ (50 : Int) < (lp : Int) := by omega
    have HF := Lib.hid hf
    have hl120 : len ≤ 120 := by
      unfold fewB at hf
      rw [Bool.and_eq_true, decide_eq_true_iff] at hf
      rw [← HLX0.out]; exact hf.1
    have HFA := Lib.hid (show ∀ x ∈ xs, x.o.all.length ≤ 2000 by
      unfold fewB at hf
      rw [Bool.and_eq_true, List.all_eq_true] at hf
      intro x hx
      have := hf.2 x hx
      simp at this
      omega)
    clear hf
    go_enter Try.func9, Try.ntmps9
    go_wp2_with fail
    refine C1.out.mono ?_
    rintro e w1 ⟨rfl, b1⟩
    have HB1 := Lib.hid b1
    have HO1 := Lib.hid (HO.out.below HB1.out (Nat.le_refl _))
    have HPK := Lib.hid (show PicksAt w1 ap lp ps from RowsAt.below HP.out HB1.out (Nat.le_refl _))
    have C2 := Lib.hid (opened_any (w := w1) 60 (by omega) (by omega))
    clear b1 C1 HP
    go_wp2_with fail
    refine C2.out.mono ?_
    rintro e w2 ⟨nd, VD, n, V, rfl, hL, hR, b2⟩
    have HW0 : (newD ((60 + 4 : Nat) : Int)).wait = [] := by rw [newD_is _ (by omega)]
    generalize newD ((60 + 4 : Nat) : Int) = D0 at hL hR HW0
    obtain ⟨G0, hG0⟩ : ∃ G0, G0 = openedG 2 60 0 0 [] := ⟨_, rfl⟩
    have hst0 : St6 w1 w1.heap.size n nd w2 0 ([], []) V VD D0 G0 := by rw [hG0]; exact ⟨hL, hR, rfl, Nat.zero_le _, by rw [HW0]; exact Nat.zero_le _, b2, Nat.le_refl _, b2.size⟩
    have hst1 := hst0.below ((Below.refl w2.heap.size w2).alloc (Nat.le_refl _) (.cells #[.slice none 0 0, .slice none 0 0] 56))
    have HST := Lib.hid hst1
    have HSB := Lib.hid (Box.new w2 56 #[.slice none 0 0, .slice none 0 0])
    have CM := Lib.hid (arm_any at_ hst1.ldg.dsk)
    obtain ⟨sB, hsB⟩ : ∃ sB, sB = w2.heap.size := ⟨_, rfl⟩
    rw [← hsB] at HSB
    have HSBG := Lib.hid (show w1.heap.size ≤ sB by rw [hsB]; exact b2.size)
    have HNV : ∀ (wz : World) (P : Nat → Prop), Tv wz (.slice none 0 0) ([] : List ByteArray) ∧ At (.slice none 0 0) P := fun wz P => ⟨⟨none, 0, rfl, ⟨rfl, by show 0 ≤ maxLen; unfold maxLen; omega, .inl rfl⟩, fun _ => rfl, Nat.le_refl _⟩, At.mk fun h0 => absurd rfl h0⟩
    have HNV := Lib.hid HNV
    clear hL hR b2 C2 HO hG0 hst0 hst1 HW0
    go_wp2_with fail
    refine CM.out.mono ?_
    rintro e w3 ⟨rfl, d3, g3⟩
    have hg3 : GoesL _ w3 n nd V V VD VD := GoesL.disk g3
    have HST3 := Lib.hid (show St6 w1 w1.heap.size n nd w3 0 ([], []) V VD (armD D0 at_) G0 from ⟨HST.out.ldg.disk d3 g3, rinv_arm HST.out.inv at_ HAMX.out, HST.out.all, HST.out.mark, HST.out.wait, hg3.below HST.out.bel (Nat.le_refl _) HST.out.ldg.of_ge, Nat.le_refl _, Nat.le_trans HST.out.b1 hg3.touch.size⟩)
    have HSB3 := Lib.hid (HSB.out.touch hg3.touch (HST.out.ldg.notBox HSB.out (by decide) (by decide) (by decide) (by decide) (by decide) (by decide)))
    clear d3 g3 hg3 CM HST HSB
    go_wp2_with fail
    rw [← hsB]
    clear hsB
    go_loopw [7, 8, 10, 38] (fun vd vl vn0 i wr => ∃ (k nn : Nat) (s : List ByteArray × List ByteArray) (base n nd : Nat) (V : Vl) (VD : Vs) (D : Dk) (G : Lg) (vn vf : Value), k ≤ len ∧ nn ≤ k ∧ vn0 = .int .i64 nn ∧ vd = .pointer (some ⟨nd, 0, none⟩) ∧ vl = .pointer (some ⟨n, 0, none⟩) ∧ i = .int .i64 k ∧ St6 w1 base n nd wr k s V VD D G ∧ Box wr sB 56 #[vn, vf] ∧ Tv wr vn s.1 ∧ Tv wr vf s.2 ∧ At vn (fun g => ¬ OfL n nd V VD g) ∧ At vf (fun g => ¬ OfL n nd V VD g)) (fun _ _ _ i _ => len - (intOf i).toNat)
    case atStart => exact ⟨0, 0, ([], []), _, _, _, _, _, _, _, _, _, Nat.zero_le _, Nat.le_refl _, rfl, rfl, rfl, rfl, HST3.out, HSB3.out, (HNV.out _ (fun _ => True)).1, (HNV.out _ (fun _ => True)).1, (HNV.out W _).2, (HNV.out W _).2⟩
    case round =>
      clear HST3 HSB3 HNV
      obtain ⟨k, nn, s, base, n, nd, Vk, VDk, Dk', Gk, vn, vf, hk, hnn, rfl, rfl, rfl, rfl, hst, hsb, htn, htf, han, haf⟩ := hrel
      have HST := Lib.hid hst
      have HSB := Lib.hid hsb
      have HTN := Lib.hid htn
      have HTF := Lib.hid htf
      have HAN := Lib.hid han
      have HAF := Lib.hid haf
      by_cases hlt : k < len
      · obtain ⟨b, off, x, rfl, hp, hb, hTx, c0, c1, c2⟩ := HO1.out.get k hlt
        have c0 := (hst.bel.cell (p := ⟨b, off + k * 3, none⟩) hb).trans c0
        have c1 := (hst.bel.cell (p := ⟨b, off + k * 3 + 1, none⟩) hb).trans c1
        have c2 := (hst.bel.cell (p := ⟨b, off + k * 3 + 2, none⟩) hb).trans c2
        have hbl : b < wr.heap.size := Nat.lt_of_lt_of_le hb hst.bel.size
        have hxl := HFA.out x (List.mem_of_getElem? hp)
        obtain ⟨L, hL⟩ : ∃ L, L = x.o.all.length := ⟨_, rfl⟩
        have hov : ov x.o x.ad x.cap = .agg #[.int .i64 x.o.kd, .string x.o.s, .slice x.ad L x.cap] := by rw [hL]
        rw [← hL] at c2
        have hba : Below wr.heap.size wr (wr.alloc (.cells #[.int .i64 x.o.kd, .string x.o.s, .slice x.ad L x.cap] 49)) := (Below.refl _ _).alloc (Nat.le_refl _) _
        have HBA := Lib.hid hba
        have HBX := Lib.hid (Box.new wr 49 #[.int .i64 x.o.kd, .string x.o.s, .slice x.ad L x.cap])
        have HTX := Lib.hid hTx
        have HOV := Lib.hid hov
        have HLL := Lib.hid hL
        have HNS := Lib.hid ((hst.below hba).ldg.notBox (show Box (wr.alloc (.cells #[.int .i64 x.o.kd, .string x.o.s, .slice x.ad L x.cap] 49)) sB 56 #[vn, vf] from (hba.block sB hsb.lt).trans hsb) (by decide) (by decide) (by decide) (by decide) (by decide) (by decide))
        have HNO := Lib.hid ((hst.below hba).ldg.notBox HBX.out (by decide) (by decide) (by decide) (by decide) (by decide) (by decide))
        have CD := (hst.below hba).does x.o x.ad x.cap hTx hxl (by omega)
        rw [hov] at CD
        have CD := Lib.hid CD
        clear hst hsb htn htf han haf hp hTx hL hov hba hxl
        go_wp2_with fail
        refine CD.out.mono ?_
        rintro e x2 ⟨V2, VD2, rfl, h2, l2, g2⟩
        have HSB2 := Lib.hid ((show Box (wr.alloc (.cells #[.int .i64 x.o.kd, .string x.o.s, .slice x.ad L x.cap] 49)) sB 56 #[vn, vf] from (HBA.out.block sB HSB.out.lt).trans HSB.out).touch g2.touch HNS.out)
        have HBX2 := Lib.hid (HBX.out.touch g2.touch HNO.out)
        have htn2 := (HTN.out.below HBA.out (Nat.le_refl _)).goes HAN.out g2
        have htf2 := (HTF.out.below HBA.out (Nat.le_refl _)).goes HAF.out g2
        have HAN2 := Lib.hid (HAN.out.goes (HTN.out.below HBA.out (Nat.le_refl _)).lt g2)
        have HAF2 := Lib.hid (HAF.out.goes (HTF.out.below HBA.out (Nat.le_refl _)).lt g2)
        have HL2 := Lib.hid l2
        have hcnt : s.1.length ≤ 10000000 := by
          have h8 := HST.out.inv.ok.count
          have h9 := size6 HST.out
          rw [HST.out.all] at h8
          omega
        obtain ⟨r, hr⟩ : ∃ r, r = stepL x.o Dk' Gk := ⟨_, rfl⟩
        rw [← hr] at h2 HL2
        rw [← hr]
        obtain ⟨rd, rg, re⟩ := r
        have HLF2 := Lib.hid h2
        have HTN2 := Lib.hid htn2
        have HTF2 := Lib.hid htf2
        have HCNT := Lib.hid hcnt
        clear hr h2 l2 g2 CD htn2 htf2 hcnt c0 c1 c2 HBX HNS HNO HTN HTF HAN HAF HBA
        by_cases h40 : re = 40
        · subst h40
          obtain ⟨xX, hxX⟩ : ∃ xX, xX = x2 := ⟨_, rfl⟩
          subst hxX
          obtain ⟨sX, hsX⟩ : ∃ sX, sX = s := ⟨_, rfl⟩
          subst hsX
          obtain ⟨vnX, hvnX⟩ : ∃ v, v = vn := ⟨_, rfl⟩
          subst hvnX
          obtain ⟨vfX, hvfX⟩ : ∃ v, v = vf := ⟨_, rfl⟩
          subst hvfX
          obtain ⟨DX, hDX⟩ : ∃ DX, DX = rd := ⟨_, rfl⟩
          subst hDX
          have HSBX := Lib.hid HSB2.out
          have HBOX := Lib.hid HBX2.out
          have HTNX := Lib.hid HTN2.out
          have HTFX := Lib.hid HTF2.out
          have HDX := Lib.hid HLF2.out.dsk
          have HGX := Lib.hid (show Good DX ∧ DX.wait.length ≤ 1000000 from ⟨HLF2.out.good, by have h1 : DX.wait.length ≤ (k + 1) * 62 := HLF2.out.wait; omega⟩)
          have HBELX := Lib.hid HLF2.out.bel
          have HBX1 := Lib.hid HLF2.out.b1
          have HCR := Lib.hid (HLF2.out.dead rfl)
          clear HSB2 HBX2 HTN2 HTF2 HLF2 HL2 HAN2 HAF2
          go_upto_region 17 with (fail)
          by_cases hnp : nn < lp
          · obtain ⟨pb, poff, pp, hpa, hpb, pc0, pc1⟩ := HPK.out.get nn hnp
            subst hpa
            have pc0 := (HBELX.out.cell (p := ⟨pb, poff + nn * 2, none⟩) hpb).trans pc0
            have pc1 := (HBELX.out.cell (p := ⟨pb, poff + nn * 2 + 1, none⟩) hpb).trans pc1
            have hpl : pb < xX.heap.size := Nat.lt_of_lt_of_le hpb HBELX.out.size
            obtain ⟨ka, kb⟩ := pp
            have pc0 : xX.cell? ⟨pb, poff + nn * 2, none⟩ = some (.int .i64 ka) := pc0
            have pc1 : xX.cell? ⟨pb, poff + nn * 2 + 1, none⟩ = some (.int .i64 kb) := pc1
            clear hpb
            have HKX := Lib.hid (show Below xX.heap.size xX (xX.alloc (.cells #[.int .i64 ka, .int .i64 kb] 61)) from (Below.refl _ _).alloc (Nat.le_refl _) _)
            have CC := Lib.hid (crash_any ka kb (HDX.out.bel HKX.out) (Nat.le_trans HBX1.out HKX.out.size) HGX.out.1 HGX.out.2)
            go_wp2_with fail
            refine CC.out.mono ?_
            rintro e y1 ⟨nd', VD1, rfl, d1, b1⟩
            have hbk : Below xX.heap.size xX y1 := HKX.out.trans (b1.mono HKX.out.size)
            obtain ⟨bs, hbs⟩ : ∃ bs, bs = (xX.alloc (.cells #[.int .i64 ka, .int .i64 kb] 61)).heap.size := ⟨_, rfl⟩
            rw [← hbs] at d1 b1
            have HBS := Lib.hid (show xX.heap.size ≤ bs by rw [hbs]; exact HKX.out.size)
            have HBSY := Lib.hid (show bs ≤ y1.heap.size by rw [hbs]; exact b1.size)
            obtain ⟨m', half', allX, hSI, hmk, hsh, hor⟩ := HCR.out ka kb
            have HOR := Lib.hid hor
            have HMK := Lib.hid hmk
            have CO := Lib.hid (reopen_any (f := 2) (M := 60) (m := m') (half := half') (all := allX) d1 HBSY.out (good_crash HGX.out.1 ka kb) rfl rfl hSI hsh (by omega))
            have HBK := Lib.hid hbk
            clear d1 b1 hbk hbs hSI hmk hor hsh CC HKX
            go_wp2_with fail
            refine CO.out.mono ?_
            rintro e y2 ⟨n', V2, rfl, l2, b2, hn2, hk2, hR2⟩
            have HR2 := Lib.hid hR2
            have HB2Y := Lib.hid (show y1.heap.size ≤ y2.heap.size from b2.size)
            have HB2 := Lib.hid (HBK.out.trans (b2.mono HBK.out.size))
            obtain ⟨LX, hLX⟩ : ∃ LX, LX = allX.length := ⟨_, rfl⟩
            have hLXb : LX ≤ 1000 := by have h8 := hR2.ok.count; rw [hLX]; have : (openedG 2 60 m' half' allX).size = 29 := rfl; have h9 : (openedG 2 60 m' half' allX).all = allX := rfl; rw [h9] at h8; omega
            have CA : Calls Try.prog 20 #[.pointer (some ⟨n', 0, none⟩)] y2 fun e w' => ∃ v', e = .returned v' ∧ w'.ownsRow y2.heap.size 9 1 v' LX (allX.map Value.string) ∧ Below y2.heap.size y2 w' := by
              rw [hLX]; exact lall_any l2 (by show allX.length ≤ _; rw [← hLX]; omega)
            have CA := Lib.hid CA
            have HL2 := Lib.hid l2
            have HLX := Lib.hid hLX
            clear l2 b2 hn2 hk2 hR2 hLX CO
            go_wp2_with fail
            refine CA.out.mono ?_
            rintro e y3 ⟨v3, rfl, o3, b3⟩
            have HB3 := Lib.hid (HB2.out.trans (b3.mono HB2.out.size))
            have HL3 := Lib.hid (HL2.out.bel b3)
            have HO3 := Lib.hid o3
            have HB3Y := Lib.hid (show y2.heap.size ≤ y3.heap.size from b3.size)
            have HN3 := Lib.hid (show ∀ j, v3.ownBlock = some j → ¬ OfL n' nd' V2 VD1 j from fun j e ho => by
              have h1 := own_ge o3 j e
              have h2 := HL2.out.of_lt j ho
              omega)
            have hsb3 : Box y3 sB 56 #[vnX, vfX] := (HB3.out.block sB HSBX.out.lt).trans HSBX.out
            have HSB3 := Lib.hid hsb3
            have HBO3 := Lib.hid (show Box y3 wr.heap.size 49 #[.int .i64 x.o.kd, .string x.o.s, .slice x.ad L x.cap] from (HB3.out.block _ HBOX.out.lt).trans HBOX.out)
            have htf3 := HTFX.out.below HB3.out (Nat.le_refl _)
            have HTF3 := Lib.hid htf3
            have HTN3 := Lib.hid (HTNX.out.below HB3.out (Nat.le_refl _))
            obtain ⟨a3, c3, rfl, _⟩ := own_shape o3
            obtain ⟨af, cf, hvf, htfx⟩ := htf3
            obtain ⟨lf, hlf⟩ : ∃ lf, lf = sX.2.length := ⟨_, rfl⟩
            rw [← hlf] at hvf
            subst hvf
            have HLF := Lib.hid hlf
            have CS := Lib.hid (same_any a3 af LX lf c3 cf allX sX.2 (txs_own o3 (by unfold maxLen; omega)) (by rw [hlf]; exact htfx.at_))
            have s1 : y3.cell? ⟨sB, 1, none⟩ = some (.slice af lf cf) := hsb3.cell 1
            have sl : sB < y3.heap.size := hsb3.lt
            clear o3 b3 hsb3 htfx hlf CA
            by_cases heq : allX = sX.2
            · have HDE := Lib.hid (show decide (allX = sX.2) = true from decide_eq_true heq)
              clear heq
              go_wp2_with fail
              refine CS.out.mono ?_
              rintro e y4 ⟨rfl, b4⟩
              rw [HDE.out]
              have HB9 := Lib.hid (HB3.out.trans (b4.mono HB3.out.size))
              have HL9 := Lib.hid (HL3.out.bel b4)
              have HO9 := Lib.hid (own_stays HO3.out (w' := y4) fun j hj => b4.block j (own_lt HO3.out j hj))
              have HSB9 := Lib.hid (show Box y4 sB 56 #[vnX, .slice af lf cf] from (b4.block sB HSB3.out.lt).trans HSB3.out)
              have HY9 := Lib.hid (show bs ≤ y4.heap.size from Nat.le_trans HBSY.out (Nat.le_trans (HB2Y.out) (Nat.le_trans HB3Y.out b4.size)))
              clear b4 CS s1 sl
              have hsb9 : Box y4 sB 56 #[vnX, .slice af lf cf] := HSB9.out
              have f0 := hsb9.frozen 0
              have f1 := hsb9.frozen 1
              have s0 : y4.cell? ⟨sB, 0, none⟩ = some vnX := hsb9.cell 0
              have s1 : y4.cell? ⟨sB, 1, none⟩ = some (.slice af lf cf) := hsb9.cell 1
              have sl : sB < y4.heap.size := hsb9.lt
              have hhp : ∀ j, j ≠ sB → ((y4.setCell ⟨sB, 0, none⟩ (.slice a3 LX c3)).setCell ⟨sB, 1, none⟩ (.slice a3 LX c3)).heap[j]? = y4.heap[j]? := fun j hj => (Below.heap_setCell _ _ _ _ hj).trans (Below.heap_setCell _ _ _ _ hj)
              have hnl := HL9.out.notBox hsb9 (by decide) (by decide) (by decide) (by decide) (by decide) (by decide)
              have hl10 : Ldg ((y4.setCell ⟨sB, 0, none⟩ (.slice a3 LX c3)).setCell ⟨sB, 1, none⟩ (.slice a3 LX c3)) bs n' nd' V2 VD1 (crashD DX ka kb) (openedG 2 60 m' half' allX) := HL9.out.stays fun j _ ho => hhp j (fun e => hnl (e ▸ ho))
              have HL10 := Lib.hid hl10
              have HSB10 := Lib.hid ((hsb9.set 0 (.slice a3 LX c3)).set 1 (.slice a3 LX c3))
              have ho10 : ((y4.setCell ⟨sB, 0, none⟩ (.slice a3 LX c3)).setCell ⟨sB, 1, none⟩ (.slice a3 LX c3)).ownsRow y2.heap.size 9 1 (.slice a3 LX c3) LX (allX.map Value.string) := own_stays HO9.out fun j hj => hhp j (by rintro rfl; exact own_box_ne HO9.out hsb9 (by decide) hj)
              have HT10 := Lib.hid (tv_own ho10 (by unfold maxLen; omega) HLX.out.symm)
              have hbel10 : Below w1.heap.size w1 ((y4.setCell ⟨sB, 0, none⟩ (.slice a3 LX c3)).setCell ⟨sB, 1, none⟩ (.slice a3 LX c3)) := ((HBELX.out.trans (HB9.out.mono HBELX.out.size)).setCell (p := ⟨sB, 0, none⟩) HSBG.out _).setCell (p := ⟨sB, 1, none⟩) HSBG.out _
              have HBEL10 := Lib.hid hbel10
              have CM := Lib.hid (arm_any at_ hl10.dsk)
              have HSZ10 := Lib.hid (show bs ≤ ((y4.setCell ⟨sB, 0, none⟩ (.slice a3 LX c3)).setCell ⟨sB, 1, none⟩ (.slice a3 LX c3)).heap.size by have h1 := HB9.out.size; have h2 := HY9.out; simp [World.setCell]; omega)
              have HAT := Lib.hid (show At (.slice a3 LX c3) (fun g => ¬ OfL n' nd' V2 VD1 g) from At.mk fun _ g off ea => HN3.out g (by subst ea; rfl))
              have HOL10 := Lib.hid (own_lt ho10)
              clear hsb9 hhp hnl hl10 ho10 hbel10
              go_wp2_with fail
              refine CM.out.mono ?_
              rintro e y11 ⟨rfl, d11, g11⟩
              have hl11 := HL10.out.disk d11 g11
              have hg11 : GoesL _ y11 n' nd' V2 V2 VD1 VD1 := GoesL.disk g11
              have hnl := HL10.out.notBox HSB10.out (by decide) (by decide) (by decide) (by decide) (by decide) (by decide)
              have HSB11 := Lib.hid (HSB10.out.touch hg11.touch hnl)
              have HT11 := Lib.hid (HT10.out.goes HAT.out hg11)
              have HST11 := Lib.hid (show St6 w1 bs n' nd' y11 (k + 1) (allX, allX) V2 VD1 (armD (crashD DX ka kb) at_) (openedG 2 60 m' half' allX) from
                ⟨hl11, rinv_arm HR2.out at_ HAMX.out, rfl, HMK.out, Nat.zero_le _, hg11.below HBEL10.out (Nat.le_refl _) (fun j hj => by have h1 := HL10.out.of_ge j hj; have h2 := HBS.out; have h3 := HBELX.out.size; omega), by have h2 := HBS.out; have h3 := HBELX.out.size; omega, Nat.le_trans HSZ10.out hg11.touch.size⟩)
              clear d11 g11 hl11 hg11 hnl CM
              go_wp2_with fail
              go_roundw
              case rel => exact ⟨k + 1, nn + 1, (allX, allX), bs, n', nd', V2, VD1, _, _, _, _, by omega, by omega, by go_num, rfl, rfl, by go_num, HST11.out, HSB11.out, HT11.out, HT11.out, HAT.out, HAT.out⟩
              case measure => simp [intOf]; omega
            · have HDE := Lib.hid (show decide (allX = sX.2) = false from decide_eq_false heq)
              have HNX := Lib.hid (HOR.out.resolve_left heq)
              clear heq
              go_wp2_with fail
              refine CS.out.mono ?_
              rintro e y4 ⟨rfl, b4⟩
              rw [HDE.out]
              have HB4 := Lib.hid (HB3.out.trans (b4.mono HB3.out.size))
              have HL4 := Lib.hid (HL3.out.bel b4)
              have ho4 := own_stays HO3.out (w' := y4) fun j hj => b4.block j (own_lt HO3.out j hj)
              have HO4 := Lib.hid ho4
              have hsb4 : Box y4 sB 56 #[vnX, .slice af lf cf] := (b4.block sB HSB3.out.lt).trans HSB3.out
              have HSB4 := Lib.hid hsb4
              have hbo4 : Box y4 wr.heap.size 49 #[.int .i64 x.o.kd, .string x.o.s, .slice x.ad L x.cap] := (b4.block _ HBO3.out.lt).trans HBO3.out
              have s0 : y4.cell? ⟨sB, 0, none⟩ = some vnX := hsb4.cell 0
              have s1 : y4.cell? ⟨sB, 1, none⟩ = some (.slice af lf cf) := hsb4.cell 1
              have sl : sB < y4.heap.size := hsb4.lt
              have o0 : y4.cell? ⟨wr.heap.size, 0, none⟩ = some (.int .i64 x.o.kd) := hbo4.cell 0
              have o1 : y4.cell? ⟨wr.heap.size, 1, none⟩ = some (.string x.o.s) := hbo4.cell 1
              have o2 : y4.cell? ⟨wr.heap.size, 2, none⟩ = some (.slice x.ad L x.cap) := hbo4.cell 2
              have ol : wr.heap.size < y4.heap.size := hbo4.lt
              have HY4 := Lib.hid (show bs ≤ y4.heap.size from Nat.le_trans HBSY.out (Nat.le_trans (HB2Y.out) (Nat.le_trans HB3Y.out b4.size)))
              have CN := next_any x.o x.ad x.cap vnX (.slice af lf cf) sX (HTN3.out.below b4 (Nat.le_refl _)) (HTF3.out.below b4 (Nat.le_refl _)) (HTX.out.below (HBELX.out.trans (HB4.out.mono HBELX.out.size)) (Nat.le_refl _))
              rw [HOV.out] at CN
              have CN := Lib.hid CN
              obtain ⟨an, cn, hvn, _⟩ := HTN3.out
              obtain ⟨ln, hln⟩ : ∃ ln, ln = sX.1.length := ⟨_, rfl⟩
              rw [← hln] at hvn
              subst hvn
              clear b4 ho4 hsb4 hbo4 hln CS
              go_wp2_with fail
              refine CN.out.mono ?_
              rintro e y5 ⟨v5, rfl, ht5, b5⟩
              rw [← HNX.out] at ht5
              obtain ⟨a5, c5, hv5, ht5'⟩ := ht5
              rw [← HLX.out] at hv5
              subst hv5
              have ho5 := own_stays HO4.out (w' := y5) fun j hj => b5.block j (own_lt HO4.out j hj)
              have HO5 := Lib.hid ho5
              have HB5 := Lib.hid (HB4.out.trans (b5.mono HB4.out.size))
              have HL5 := Lib.hid (HL4.out.bel b5)
              have HSB5 := Lib.hid (show Box y5 sB 56 #[.slice an ln cn, .slice af lf cf] from (b5.block sB HSB4.out.lt).trans HSB4.out)
              have HY5 := Lib.hid (show bs ≤ y5.heap.size from Nat.le_trans HY4.out b5.size)
              have CT := Lib.hid (same_any a3 a5 LX LX c3 c5 allX allX (txs_own ho5 (by unfold maxLen; omega)) (by have := ht5'.at_; rw [← HLX.out] at this; exact this))
              clear ht5' b5 ho5 CN s0 s1 sl o0 o1 o2 ol
              go_wp2_with fail
              refine CT.out.mono ?_
              rintro e y6 ⟨rfl, b6⟩
              have HB9 := Lib.hid (HB5.out.trans (b6.mono HB5.out.size))
              have HL9 := Lib.hid (HL5.out.bel b6)
              have HO9 := Lib.hid (own_stays HO5.out (w' := y6) fun j hj => b6.block j (own_lt HO5.out j hj))
              have HSB9 := Lib.hid (show Box y6 sB 56 #[.slice an ln cn, .slice af lf cf] from (b6.block sB HSB5.out.lt).trans HSB5.out)
              have HY9 := Lib.hid (show bs ≤ y6.heap.size from Nat.le_trans HY5.out b6.size)
              clear b6 CT
              have hsb9 : Box y6 sB 56 #[(.slice an ln cn), .slice af lf cf] := HSB9.out
              have f0 := hsb9.frozen 0
              have f1 := hsb9.frozen 1
              have s0 : y6.cell? ⟨sB, 0, none⟩ = some (.slice an ln cn) := hsb9.cell 0
              have s1 : y6.cell? ⟨sB, 1, none⟩ = some (.slice af lf cf) := hsb9.cell 1
              have sl : sB < y6.heap.size := hsb9.lt
              have hhp : ∀ j, j ≠ sB → ((y6.setCell ⟨sB, 0, none⟩ (.slice a3 LX c3)).setCell ⟨sB, 1, none⟩ (.slice a3 LX c3)).heap[j]? = y6.heap[j]? := fun j hj => (Below.heap_setCell _ _ _ _ hj).trans (Below.heap_setCell _ _ _ _ hj)
              have hnl := HL9.out.notBox hsb9 (by decide) (by decide) (by decide) (by decide) (by decide) (by decide)
              have hl10 : Ldg ((y6.setCell ⟨sB, 0, none⟩ (.slice a3 LX c3)).setCell ⟨sB, 1, none⟩ (.slice a3 LX c3)) bs n' nd' V2 VD1 (crashD DX ka kb) (openedG 2 60 m' half' allX) := HL9.out.stays fun j _ ho => hhp j (fun e => hnl (e ▸ ho))
              have HL10 := Lib.hid hl10
              have HSB10 := Lib.hid ((hsb9.set 0 (.slice a3 LX c3)).set 1 (.slice a3 LX c3))
              have ho10 : ((y6.setCell ⟨sB, 0, none⟩ (.slice a3 LX c3)).setCell ⟨sB, 1, none⟩ (.slice a3 LX c3)).ownsRow y2.heap.size 9 1 (.slice a3 LX c3) LX (allX.map Value.string) := own_stays HO9.out fun j hj => hhp j (by rintro rfl; exact own_box_ne HO9.out hsb9 (by decide) hj)
              have HT10 := Lib.hid (tv_own ho10 (by unfold maxLen; omega) HLX.out.symm)
              have hbel10 : Below w1.heap.size w1 ((y6.setCell ⟨sB, 0, none⟩ (.slice a3 LX c3)).setCell ⟨sB, 1, none⟩ (.slice a3 LX c3)) := ((HBELX.out.trans (HB9.out.mono HBELX.out.size)).setCell (p := ⟨sB, 0, none⟩) HSBG.out _).setCell (p := ⟨sB, 1, none⟩) HSBG.out _
              have HBEL10 := Lib.hid hbel10
              have CM := Lib.hid (arm_any at_ hl10.dsk)
              have HSZ10 := Lib.hid (show bs ≤ ((y6.setCell ⟨sB, 0, none⟩ (.slice a3 LX c3)).setCell ⟨sB, 1, none⟩ (.slice a3 LX c3)).heap.size by have h1 := HB9.out.size; have h2 := HY9.out; simp [World.setCell]; omega)
              have HAT := Lib.hid (show At (.slice a3 LX c3) (fun g => ¬ OfL n' nd' V2 VD1 g) from At.mk fun _ g off ea => HN3.out g (by subst ea; rfl))
              have HOL10 := Lib.hid (own_lt ho10)
              clear hsb9 hhp hnl hl10 ho10 hbel10
              go_wp2_with fail
              refine CM.out.mono ?_
              rintro e y11 ⟨rfl, d11, g11⟩
              have hl11 := HL10.out.disk d11 g11
              have hg11 : GoesL _ y11 n' nd' V2 V2 VD1 VD1 := GoesL.disk g11
              have hnl := HL10.out.notBox HSB10.out (by decide) (by decide) (by decide) (by decide) (by decide) (by decide)
              have HSB11 := Lib.hid (HSB10.out.touch hg11.touch hnl)
              have HT11 := Lib.hid (HT10.out.goes HAT.out hg11)
              have HST11 := Lib.hid (show St6 w1 bs n' nd' y11 (k + 1) (allX, allX) V2 VD1 (armD (crashD DX ka kb) at_) (openedG 2 60 m' half' allX) from
                ⟨hl11, rinv_arm HR2.out at_ HAMX.out, rfl, HMK.out, Nat.zero_le _, hg11.below HBEL10.out (Nat.le_refl _) (fun j hj => by have h1 := HL10.out.of_ge j hj; have h2 := HBS.out; have h3 := HBELX.out.size; omega), by have h2 := HBS.out; have h3 := HBELX.out.size; omega, Nat.le_trans HSZ10.out hg11.touch.size⟩)
              clear d11 g11 hl11 hg11 hnl CM
              go_wp2_with fail
              go_roundw
              case rel => exact ⟨k + 1, nn + 1, (allX, allX), bs, n', nd', V2, VD1, _, _, _, _, by omega, by omega, by go_num, rfl, rfl, by go_num, HST11.out, HSB11.out, HT11.out, HT11.out, HAT.out, HAT.out⟩
              case measure => simp [intOf]; omega
          · skip
            have HKX := Lib.hid (show Below xX.heap.size xX (xX.alloc (.cells #[.int .i64 0, .int .i64 0] 61)) from (Below.refl _ _).alloc (Nat.le_refl _) _)
            have CC := Lib.hid (crash_any 0 0 (HDX.out.bel HKX.out) (Nat.le_trans HBX1.out HKX.out.size) HGX.out.1 HGX.out.2)
            go_wp2_with fail
            refine CC.out.mono ?_
            rintro e y1 ⟨nd', VD1, rfl, d1, b1⟩
            have hbk : Below xX.heap.size xX y1 := HKX.out.trans (b1.mono HKX.out.size)
            obtain ⟨bs, hbs⟩ : ∃ bs, bs = (xX.alloc (.cells #[.int .i64 0, .int .i64 0] 61)).heap.size := ⟨_, rfl⟩
            rw [← hbs] at d1 b1
            have HBS := Lib.hid (show xX.heap.size ≤ bs by rw [hbs]; exact HKX.out.size)
            have HBSY := Lib.hid (show bs ≤ y1.heap.size by rw [hbs]; exact b1.size)
            obtain ⟨m', half', allX, hSI, hmk, hsh, hor⟩ := HCR.out 0 0
            have HOR := Lib.hid hor
            have HMK := Lib.hid hmk
            have CO := Lib.hid (reopen_any (f := 2) (M := 60) (m := m') (half := half') (all := allX) d1 HBSY.out (good_crash HGX.out.1 0 0) rfl rfl hSI hsh (by omega))
            have HBK := Lib.hid hbk
            clear d1 b1 hbk hbs hSI hmk hor hsh CC HKX
            go_wp2_with fail
            refine CO.out.mono ?_
            rintro e y2 ⟨n', V2, rfl, l2, b2, hn2, hk2, hR2⟩
            have HR2 := Lib.hid hR2
            have HB2Y := Lib.hid (show y1.heap.size ≤ y2.heap.size from b2.size)
            have HB2 := Lib.hid (HBK.out.trans (b2.mono HBK.out.size))
            obtain ⟨LX, hLX⟩ : ∃ LX, LX = allX.length := ⟨_, rfl⟩
            have hLXb : LX ≤ 1000 := by have h8 := hR2.ok.count; rw [hLX]; have : (openedG 2 60 m' half' allX).size = 29 := rfl; have h9 : (openedG 2 60 m' half' allX).all = allX := rfl; rw [h9] at h8; omega
            have CA : Calls Try.prog 20 #[.pointer (some ⟨n', 0, none⟩)] y2 fun e w' => ∃ v', e = .returned v' ∧ w'.ownsRow y2.heap.size 9 1 v' LX (allX.map Value.string) ∧ Below y2.heap.size y2 w' := by
              rw [hLX]; exact lall_any l2 (by show allX.length ≤ _; rw [← hLX]; omega)
            have CA := Lib.hid CA
            have HL2 := Lib.hid l2
            have HLX := Lib.hid hLX
            clear l2 b2 hn2 hk2 hR2 hLX CO
            go_wp2_with fail
            refine CA.out.mono ?_
            rintro e y3 ⟨v3, rfl, o3, b3⟩
            have HB3 := Lib.hid (HB2.out.trans (b3.mono HB2.out.size))
            have HL3 := Lib.hid (HL2.out.bel b3)
            have HO3 := Lib.hid o3
            have HB3Y := Lib.hid (show y2.heap.size ≤ y3.heap.size from b3.size)
            have HN3 := Lib.hid (show ∀ j, v3.ownBlock = some j → ¬ OfL n' nd' V2 VD1 j from fun j e ho => by
              have h1 := own_ge o3 j e
              have h2 := HL2.out.of_lt j ho
              omega)
            have hsb3 : Box y3 sB 56 #[vnX, vfX] := (HB3.out.block sB HSBX.out.lt).trans HSBX.out
            have HSB3 := Lib.hid hsb3
            have HBO3 := Lib.hid (show Box y3 wr.heap.size 49 #[.int .i64 x.o.kd, .string x.o.s, .slice x.ad L x.cap] from (HB3.out.block _ HBOX.out.lt).trans HBOX.out)
            have htf3 := HTFX.out.below HB3.out (Nat.le_refl _)
            have HTF3 := Lib.hid htf3
            have HTN3 := Lib.hid (HTNX.out.below HB3.out (Nat.le_refl _))
            obtain ⟨a3, c3, rfl, _⟩ := own_shape o3
            obtain ⟨af, cf, hvf, htfx⟩ := htf3
            obtain ⟨lf, hlf⟩ : ∃ lf, lf = sX.2.length := ⟨_, rfl⟩
            rw [← hlf] at hvf
            subst hvf
            have HLF := Lib.hid hlf
            have CS := Lib.hid (same_any a3 af LX lf c3 cf allX sX.2 (txs_own o3 (by unfold maxLen; omega)) (by rw [hlf]; exact htfx.at_))
            have s1 : y3.cell? ⟨sB, 1, none⟩ = some (.slice af lf cf) := hsb3.cell 1
            have sl : sB < y3.heap.size := hsb3.lt
            clear o3 b3 hsb3 htfx hlf CA
            by_cases heq : allX = sX.2
            · have HDE := Lib.hid (show decide (allX = sX.2) = true from decide_eq_true heq)
              clear heq
              go_wp2_with fail
              refine CS.out.mono ?_
              rintro e y4 ⟨rfl, b4⟩
              rw [HDE.out]
              have HB9 := Lib.hid (HB3.out.trans (b4.mono HB3.out.size))
              have HL9 := Lib.hid (HL3.out.bel b4)
              have HO9 := Lib.hid (own_stays HO3.out (w' := y4) fun j hj => b4.block j (own_lt HO3.out j hj))
              have HSB9 := Lib.hid (show Box y4 sB 56 #[vnX, .slice af lf cf] from (b4.block sB HSB3.out.lt).trans HSB3.out)
              have HY9 := Lib.hid (show bs ≤ y4.heap.size from Nat.le_trans HBSY.out (Nat.le_trans (HB2Y.out) (Nat.le_trans HB3Y.out b4.size)))
              clear b4 CS s1 sl
              have hsb9 : Box y4 sB 56 #[vnX, .slice af lf cf] := HSB9.out
              have f0 := hsb9.frozen 0
              have f1 := hsb9.frozen 1
              have s0 : y4.cell? ⟨sB, 0, none⟩ = some vnX := hsb9.cell 0
              have s1 : y4.cell? ⟨sB, 1, none⟩ = some (.slice af lf cf) := hsb9.cell 1
              have sl : sB < y4.heap.size := hsb9.lt
              have hhp : ∀ j, j ≠ sB → ((y4.setCell ⟨sB, 0, none⟩ (.slice a3 LX c3)).setCell ⟨sB, 1, none⟩ (.slice a3 LX c3)).heap[j]? = y4.heap[j]? := fun j hj => (Below.heap_setCell _ _ _ _ hj).trans (Below.heap_setCell _ _ _ _ hj)
              have hnl := HL9.out.notBox hsb9 (by decide) (by decide) (by decide) (by decide) (by decide) (by decide)
              have hl10 : Ldg ((y4.setCell ⟨sB, 0, none⟩ (.slice a3 LX c3)).setCell ⟨sB, 1, none⟩ (.slice a3 LX c3)) bs n' nd' V2 VD1 (crashD DX 0 0) (openedG 2 60 m' half' allX) := HL9.out.stays fun j _ ho => hhp j (fun e => hnl (e ▸ ho))
              have HL10 := Lib.hid hl10
              have HSB10 := Lib.hid ((hsb9.set 0 (.slice a3 LX c3)).set 1 (.slice a3 LX c3))
              have ho10 : ((y4.setCell ⟨sB, 0, none⟩ (.slice a3 LX c3)).setCell ⟨sB, 1, none⟩ (.slice a3 LX c3)).ownsRow y2.heap.size 9 1 (.slice a3 LX c3) LX (allX.map Value.string) := own_stays HO9.out fun j hj => hhp j (by rintro rfl; exact own_box_ne HO9.out hsb9 (by decide) hj)
              have HT10 := Lib.hid (tv_own ho10 (by unfold maxLen; omega) HLX.out.symm)
              have hbel10 : Below w1.heap.size w1 ((y4.setCell ⟨sB, 0, none⟩ (.slice a3 LX c3)).setCell ⟨sB, 1, none⟩ (.slice a3 LX c3)) := ((HBELX.out.trans (HB9.out.mono HBELX.out.size)).setCell (p := ⟨sB, 0, none⟩) HSBG.out _).setCell (p := ⟨sB, 1, none⟩) HSBG.out _
              have HBEL10 := Lib.hid hbel10
              have CM := Lib.hid (arm_any at_ hl10.dsk)
              have HSZ10 := Lib.hid (show bs ≤ ((y4.setCell ⟨sB, 0, none⟩ (.slice a3 LX c3)).setCell ⟨sB, 1, none⟩ (.slice a3 LX c3)).heap.size by have h1 := HB9.out.size; have h2 := HY9.out; simp [World.setCell]; omega)
              have HAT := Lib.hid (show At (.slice a3 LX c3) (fun g => ¬ OfL n' nd' V2 VD1 g) from At.mk fun _ g off ea => HN3.out g (by subst ea; rfl))
              have HOL10 := Lib.hid (own_lt ho10)
              clear hsb9 hhp hnl hl10 ho10 hbel10
              go_wp2_with fail
              refine CM.out.mono ?_
              rintro e y11 ⟨rfl, d11, g11⟩
              have hl11 := HL10.out.disk d11 g11
              have hg11 : GoesL _ y11 n' nd' V2 V2 VD1 VD1 := GoesL.disk g11
              have hnl := HL10.out.notBox HSB10.out (by decide) (by decide) (by decide) (by decide) (by decide) (by decide)
              have HSB11 := Lib.hid (HSB10.out.touch hg11.touch hnl)
              have HT11 := Lib.hid (HT10.out.goes HAT.out hg11)
              have HST11 := Lib.hid (show St6 w1 bs n' nd' y11 (k + 1) (allX, allX) V2 VD1 (armD (crashD DX 0 0) at_) (openedG 2 60 m' half' allX) from
                ⟨hl11, rinv_arm HR2.out at_ HAMX.out, rfl, HMK.out, Nat.zero_le _, hg11.below HBEL10.out (Nat.le_refl _) (fun j hj => by have h1 := HL10.out.of_ge j hj; have h2 := HBS.out; have h3 := HBELX.out.size; omega), by have h2 := HBS.out; have h3 := HBELX.out.size; omega, Nat.le_trans HSZ10.out hg11.touch.size⟩)
              clear d11 g11 hl11 hg11 hnl CM
              go_wp2_with fail
              go_roundw
              case rel => exact ⟨k + 1, nn + 1, (allX, allX), bs, n', nd', V2, VD1, _, _, _, _, by omega, by omega, by go_num, rfl, rfl, by go_num, HST11.out, HSB11.out, HT11.out, HT11.out, HAT.out, HAT.out⟩
              case measure => simp [intOf]; omega
            · have HDE := Lib.hid (show decide (allX = sX.2) = false from decide_eq_false heq)
              have HNX := Lib.hid (HOR.out.resolve_left heq)
              clear heq
              go_wp2_with fail
              refine CS.out.mono ?_
              rintro e y4 ⟨rfl, b4⟩
              rw [HDE.out]
              have HB4 := Lib.hid (HB3.out.trans (b4.mono HB3.out.size))
              have HL4 := Lib.hid (HL3.out.bel b4)
              have ho4 := own_stays HO3.out (w' := y4) fun j hj => b4.block j (own_lt HO3.out j hj)
              have HO4 := Lib.hid ho4
              have hsb4 : Box y4 sB 56 #[vnX, .slice af lf cf] := (b4.block sB HSB3.out.lt).trans HSB3.out
              have HSB4 := Lib.hid hsb4
              have hbo4 : Box y4 wr.heap.size 49 #[.int .i64 x.o.kd, .string x.o.s, .slice x.ad L x.cap] := (b4.block _ HBO3.out.lt).trans HBO3.out
              have s0 : y4.cell? ⟨sB, 0, none⟩ = some vnX := hsb4.cell 0
              have s1 : y4.cell? ⟨sB, 1, none⟩ = some (.slice af lf cf) := hsb4.cell 1
              have sl : sB < y4.heap.size := hsb4.lt
              have o0 : y4.cell? ⟨wr.heap.size, 0, none⟩ = some (.int .i64 x.o.kd) := hbo4.cell 0
              have o1 : y4.cell? ⟨wr.heap.size, 1, none⟩ = some (.string x.o.s) := hbo4.cell 1
              have o2 : y4.cell? ⟨wr.heap.size, 2, none⟩ = some (.slice x.ad L x.cap) := hbo4.cell 2
              have ol : wr.heap.size < y4.heap.size := hbo4.lt
              have HY4 := Lib.hid (show bs ≤ y4.heap.size from Nat.le_trans HBSY.out (Nat.le_trans (HB2Y.out) (Nat.le_trans HB3Y.out b4.size)))
              have CN := next_any x.o x.ad x.cap vnX (.slice af lf cf) sX (HTN3.out.below b4 (Nat.le_refl _)) (HTF3.out.below b4 (Nat.le_refl _)) (HTX.out.below (HBELX.out.trans (HB4.out.mono HBELX.out.size)) (Nat.le_refl _))
              rw [HOV.out] at CN
              have CN := Lib.hid CN
              obtain ⟨an, cn, hvn, _⟩ := HTN3.out
              obtain ⟨ln, hln⟩ : ∃ ln, ln = sX.1.length := ⟨_, rfl⟩
              rw [← hln] at hvn
              subst hvn
              clear b4 ho4 hsb4 hbo4 hln CS
              go_wp2_with fail
              refine CN.out.mono ?_
              rintro e y5 ⟨v5, rfl, ht5, b5⟩
              rw [← HNX.out] at ht5
              obtain ⟨a5, c5, hv5, ht5'⟩ := ht5
              rw [← HLX.out] at hv5
              subst hv5
              have ho5 := own_stays HO4.out (w' := y5) fun j hj => b5.block j (own_lt HO4.out j hj)
              have HO5 := Lib.hid ho5
              have HB5 := Lib.hid (HB4.out.trans (b5.mono HB4.out.size))
              have HL5 := Lib.hid (HL4.out.bel b5)
              have HSB5 := Lib.hid (show Box y5 sB 56 #[.slice an ln cn, .slice af lf cf] from (b5.block sB HSB4.out.lt).trans HSB4.out)
              have HY5 := Lib.hid (show bs ≤ y5.heap.size from Nat.le_trans HY4.out b5.size)
              have CT := Lib.hid (same_any a3 a5 LX LX c3 c5 allX allX (txs_own ho5 (by unfold maxLen; omega)) (by have := ht5'.at_; rw [← HLX.out] at this; exact this))
              clear ht5' b5 ho5 CN s0 s1 sl o0 o1 o2 ol
              go_wp2_with fail
              refine CT.out.mono ?_
              rintro e y6 ⟨rfl, b6⟩
              have HB9 := Lib.hid (HB5.out.trans (b6.mono HB5.out.size))
              have HL9 := Lib.hid (HL5.out.bel b6)
              have HO9 := Lib.hid (own_stays HO5.out (w' := y6) fun j hj => b6.block j (own_lt HO5.out j hj))
              have HSB9 := Lib.hid (show Box y6 sB 56 #[.slice an ln cn, .slice af lf cf] from (b6.block sB HSB5.out.lt).trans HSB5.out)
              have HY9 := Lib.hid (show bs ≤ y6.heap.size from Nat.le_trans HY5.out b6.size)
              clear b6 CT
              have hsb9 : Box y6 sB 56 #[(.slice an ln cn), .slice af lf cf] := HSB9.out
              have f0 := hsb9.frozen 0
              have f1 := hsb9.frozen 1
              have s0 : y6.cell? ⟨sB, 0, none⟩ = some (.slice an ln cn) := hsb9.cell 0
              have s1 : y6.cell? ⟨sB, 1, none⟩ = some (.slice af lf cf) := hsb9.cell 1
              have sl : sB < y6.heap.size := hsb9.lt
              have hhp : ∀ j, j ≠ sB → ((y6.setCell ⟨sB, 0, none⟩ (.slice a3 LX c3)).setCell ⟨sB, 1, none⟩ (.slice a3 LX c3)).heap[j]? = y6.heap[j]? := fun j hj => (Below.heap_setCell _ _ _ _ hj).trans (Below.heap_setCell _ _ _ _ hj)
              have hnl := HL9.out.notBox hsb9 (by decide) (by decide) (by decide) (by decide) (by decide) (by decide)
              have hl10 : Ldg ((y6.setCell ⟨sB, 0, none⟩ (.slice a3 LX c3)).setCell ⟨sB, 1, none⟩ (.slice a3 LX c3)) bs n' nd' V2 VD1 (crashD DX 0 0) (openedG 2 60 m' half' allX) := HL9.out.stays fun j _ ho => hhp j (fun e => hnl (e ▸ ho))
              have HL10 := Lib.hid hl10
              have HSB10 := Lib.hid ((hsb9.set 0 (.slice a3 LX c3)).set 1 (.slice a3 LX c3))
              have ho10 : ((y6.setCell ⟨sB, 0, none⟩ (.slice a3 LX c3)).setCell ⟨sB, 1, none⟩ (.slice a3 LX c3)).ownsRow y2.heap.size 9 1 (.slice a3 LX c3) LX (allX.map Value.string) := own_stays HO9.out fun j hj => hhp j (by rintro rfl; exact own_box_ne HO9.out hsb9 (by decide) hj)
              have HT10 := Lib.hid (tv_own ho10 (by unfold maxLen; omega) HLX.out.symm)
              have hbel10 : Below w1.heap.size w1 ((y6.setCell ⟨sB, 0, none⟩ (.slice a3 LX c3)).setCell ⟨sB, 1, none⟩ (.slice a3 LX c3)) := ((HBELX.out.trans (HB9.out.mono HBELX.out.size)).setCell (p := ⟨sB, 0, none⟩) HSBG.out _).setCell (p := ⟨sB, 1, none⟩) HSBG.out _
              have HBEL10 := Lib.hid hbel10
              have CM := Lib.hid (arm_any at_ hl10.dsk)
              have HSZ10 := Lib.hid (show bs ≤ ((y6.setCell ⟨sB, 0, none⟩ (.slice a3 LX c3)).setCell ⟨sB, 1, none⟩ (.slice a3 LX c3)).heap.size by have h1 := HB9.out.size; have h2 := HY9.out; simp [World.setCell]; omega)
              have HAT := Lib.hid (show At (.slice a3 LX c3) (fun g => ¬ OfL n' nd' V2 VD1 g) from At.mk fun _ g off ea => HN3.out g (by subst ea; rfl))
              have HOL10 := Lib.hid (own_lt ho10)
              clear hsb9 hhp hnl hl10 ho10 hbel10
              go_wp2_with fail
              refine CM.out.mono ?_
              rintro e y11 ⟨rfl, d11, g11⟩
              have hl11 := HL10.out.disk d11 g11
              have hg11 : GoesL _ y11 n' nd' V2 V2 VD1 VD1 := GoesL.disk g11
              have hnl := HL10.out.notBox HSB10.out (by decide) (by decide) (by decide) (by decide) (by decide) (by decide)
              have HSB11 := Lib.hid (HSB10.out.touch hg11.touch hnl)
              have HT11 := Lib.hid (HT10.out.goes HAT.out hg11)
              have HST11 := Lib.hid (show St6 w1 bs n' nd' y11 (k + 1) (allX, allX) V2 VD1 (armD (crashD DX 0 0) at_) (openedG 2 60 m' half' allX) from
                ⟨hl11, rinv_arm HR2.out at_ HAMX.out, rfl, HMK.out, Nat.zero_le _, hg11.below HBEL10.out (Nat.le_refl _) (fun j hj => by have h1 := HL10.out.of_ge j hj; have h2 := HBS.out; have h3 := HBELX.out.size; omega), by have h2 := HBS.out; have h3 := HBELX.out.size; omega, Nat.le_trans HSZ10.out hg11.touch.size⟩)
              clear d11 g11 hl11 hg11 hnl CM
              go_wp2_with fail
              go_roundw
              case rel => exact ⟨k + 1, nn + 1, (allX, allX), bs, n', nd', V2, VD1, _, _, _, _, by omega, by omega, by go_num, rfl, rfl, by go_num, HST11.out, HSB11.out, HT11.out, HT11.out, HAT.out, HAT.out⟩
              case measure => simp [intOf]; omega
        · have h40' : (re != 40) = true := by simpa using h40
          have HLV := Lib.hid (HLF2.out.live h40)
          have HLV := Lib.hid (show St6 w1 base n nd x2 (k + 1) (doN x.o re s) V2 VD2 rd rg from HLV.out)
          have s0 : x2.cell? ⟨sB, 0, none⟩ = some vn := HSB2.out.cell 0
          have s1 : x2.cell? ⟨sB, 1, none⟩ = some vf := HSB2.out.cell 1
          have sl : sB < x2.heap.size := HSB2.out.lt
          have o0 : x2.cell? ⟨wr.heap.size, 0, none⟩ = some (.int .i64 x.o.kd) := HBX2.out.cell 0
          have o1 : x2.cell? ⟨wr.heap.size, 1, none⟩ = some (.string x.o.s) := HBX2.out.cell 1
          have o2 : x2.cell? ⟨wr.heap.size, 2, none⟩ = some (.slice x.ad L x.cap) := HBX2.out.cell 2
          have ol : wr.heap.size < x2.heap.size := HBX2.out.lt
          have CO := do_any x.o re x.ad x.cap vn vf s HTN2.out HTF2.out (HTX.out.below HLV.out.bel (Nat.le_refl _)) HCNT.out
          rw [HOV.out, ← HLL.out] at CO
          obtain ⟨sX, hs'⟩ : ∃ s', s' = doN x.o re s := ⟨_, rfl⟩
          rw [← hs'] at CO HLV
          have CO := Lib.hid CO
          obtain ⟨an0, cn0, hvn, _⟩ := HTN2.out
          obtain ⟨af0, cf0, hvf, _⟩ := HTF2.out
          obtain ⟨ln0, hln⟩ : ∃ ln, ln = s.1.length := ⟨_, rfl⟩
          obtain ⟨lf0, hlf⟩ : ∃ lf, lf = s.2.length := ⟨_, rfl⟩
          rw [← hln] at hvn
          rw [← hlf] at hvf
          subst hvn hvf
          clear h40 hs' hln hlf HTN2 HTF2 HLF2
          go_wp2_with fail
          refine CO.out.mono ?_
          rintro e x3 ⟨vn', vf', rfl, htn3, htf3, b3, hat⟩
          have hS3 : Box x3 sB 56 #[.slice an0 ln0 cn0, .slice af0 lf0 cf0] := (b3.block sB HSB2.out.lt).trans HSB2.out
          have hB3 : Box x3 wr.heap.size 49 #[.int .i64 x.o.kd, .string x.o.s, .slice x.ad L x.cap] := (b3.block _ HBX2.out.lt).trans HBX2.out
          have h3 := HLV.out.below b3
          have HAX := Lib.hid (show At (.slice x.ad L x.cap) (fun g => ¬ OfL n nd V2 VD2 g) from At.mk fun h0 => HLV.out.apart HTX.out (by rw [← HLL.out]; exact h0))
          obtain ⟨hn3, hf3⟩ := hat (fun g => ¬ OfL n nd V2 VD2 g) HAN2.out HAF2.out HAX.out (fun j hj _ ho => by have := HLV.out.ldg.of_lt j ho; omega)
          have hns3 := htn3.notBox hS3 (no_str _ _ _ _ _ _)
          have hfs3 := htf3.notBox hS3 (no_str _ _ _ _ _ _)
          have hnl := h3.ldg.notBox hS3 (by decide) (by decide) (by decide) (by decide) (by decide) (by decide)
          have f0 := hS3.frozen 0
          have f1 := hS3.frozen 1
          have s0 : x3.cell? ⟨sB, 0, none⟩ = some (.slice an0 ln0 cn0) := hS3.cell 0
          have s1 : x3.cell? ⟨sB, 1, none⟩ = some (.slice af0 lf0 cf0) := hS3.cell 1
          have sl : sB < x3.heap.size := hS3.lt
          obtain ⟨an', cn', hvn, htn3'⟩ := htn3
          obtain ⟨af', cf', hvf, htf3'⟩ := htf3
          obtain ⟨ln', hln⟩ : ∃ ln, ln = sX.1.length := ⟨_, rfl⟩
          obtain ⟨lf', hlf⟩ : ∃ lf, lf = sX.2.length := ⟨_, rfl⟩
          rw [← hln] at hvn
          rw [← hlf] at hvf
          subst hvn hvf
          have hhp : ∀ j, j ≠ sB → ((x3.setCell ⟨sB, 0, none⟩ (.slice an' ln' cn')).setCell ⟨sB, 1, none⟩ (.slice af' lf' cf')).heap[j]? = x3.heap[j]? := fun j hj => (Below.heap_setCell _ _ _ _ hj).trans (Below.heap_setCell _ _ _ _ hj)
          have hsz : x3.heap.size ≤ ((x3.setCell ⟨sB, 0, none⟩ (.slice an' ln' cn')).setCell ⟨sB, 1, none⟩ (.slice af' lf' cf')).heap.size := by simp [World.setCell]
          have HSB4 := Lib.hid ((hS3.set 0 (.slice an' ln' cn')).set 1 (.slice af' lf' cf'))
          have HBX4 := Lib.hid (show Box ((x3.setCell ⟨sB, 0, none⟩ (.slice an' ln' cn')).setCell ⟨sB, 1, none⟩ (.slice af' lf' cf')) wr.heap.size 49 #[.int .i64 x.o.kd, .string x.o.s, .slice x.ad L x.cap] from (hhp _ (fun e => by have hx := hB3; rw [e] at hx; unfold Box at hx hS3; rw [hS3] at hx; simp at hx)).trans hB3)
          have HST4 := Lib.hid (h3.stays (w' := ((x3.setCell ⟨sB, 0, none⟩ (.slice an' ln' cn')).setCell ⟨sB, 1, none⟩ (.slice af' lf' cf'))) (fun j _ ho => hhp j (fun e => hnl (e ▸ ho))) ((h3.bel.setCell (p := ⟨sB, 0, none⟩) HSBG.out _).setCell (p := ⟨sB, 1, none⟩) HSBG.out _) hsz)
          have HTN4 := Lib.hid (show Tv ((x3.setCell ⟨sB, 0, none⟩ (.slice an' ln' cn')).setCell ⟨sB, 1, none⟩ (.slice af' lf' cf')) (.slice an' ln' cn') sX.1 from Tv.stays ⟨an', cn', by rw [hln], htn3'⟩ hns3 (fun j _ hj => hhp j hj) hsz)
          have HTF4 := Lib.hid (show Tv ((x3.setCell ⟨sB, 0, none⟩ (.slice an' ln' cn')).setCell ⟨sB, 1, none⟩ (.slice af' lf' cf')) (.slice af' lf' cf') sX.2 from Tv.stays ⟨af', cf', by rw [hlf], htf3'⟩ hfs3 (fun j _ hj => hhp j hj) hsz)
          have HAN4 := Lib.hid hn3
          have HAF4 := Lib.hid hf3
          clear b3 hat hS3 hB3 h3 hn3 hf3 hns3 hfs3 hnl htn3' htf3' hhp hsz hln hlf CO o0 o1 o2 ol HAN2 HAF2 HAX
          go_upto_region 15 with (fail)
          refine wp_name (fun X => Box X sB 56 #[.slice an' ln' cn', .slice af' lf' cf'] ∧ Box X wr.heap.size 49 #[.int .i64 x.o.kd, .string x.o.s, .slice x.ad L x.cap] ∧ St6 w1 base n nd X (k + 1) sX V2 VD2 rd rg ∧ Tv X (.slice an' ln' cn') sX.1 ∧ Tv X (.slice af' lf' cf') sX.2) ⟨HSB4.out, HBX4.out, HST4.out, HTN4.out, HTF4.out⟩ ?_
          clear HSB4 HBX4 HST4 HTN4 HTF4 s0 s1 sl f0 f1
          rintro xX ⟨q1, q2, q3, q4, q5⟩
          have HSBX := Lib.hid q1
          have HBOX := Lib.hid q2
          have HSTX := Lib.hid q3
          have HTNX := Lib.hid q4
          have HTFX := Lib.hid q5
          clear q1 q2 q3 q4 q5
          obtain ⟨Q, hQ⟩ : ∃ Q, Q = k % 7 := ⟨_, rfl⟩
          have q1 : (k : Int).tmod 7 = (Q : Int) := by rw [Int.tmod_eq_emod_of_nonneg (by omega)]; omega
          have q2 : (k : Int) % 7 = (Q : Int) := by omega
          clear hQ
          by_cases h6 : Q = 6
          rotate_left
          · have q3 : ((Q : Int) != 6) = true := by simp; omega
            go_wp2_with fail
            go_roundw
            case rel => exact ⟨k + 1, nn, sX, _, _, _, _, _, _, _, _, _, by omega, by omega, rfl, rfl, rfl, by go_num, HSTX.out, HSBX.out, HTNX.out, HTFX.out, HAN4.out, HAF4.out⟩
            case measure => simp [intOf]; omega
          · subst h6
            obtain ⟨vnX, hvnX⟩ : ∃ v : Value, v = .slice an' ln' cn' := ⟨_, rfl⟩
            obtain ⟨vfX, hvfX⟩ : ∃ v : Value, v = .slice af' lf' cf' := ⟨_, rfl⟩
            rw [← hvnX] at HTNX HAN4
            rw [← hvfX] at HTFX HAF4
            rw [← hvnX, ← hvfX] at HSBX
            obtain ⟨DX, hDX⟩ : ∃ DX, DX = rd := ⟨_, rfl⟩
            subst hDX
            have HDX := Lib.hid HSTX.out.ldg.dsk
            have HGX := Lib.hid (show Good DX ∧ DX.wait.length ≤ 1000000 from ⟨HSTX.out.inv.ok.good, by have h1 : DX.wait.length ≤ (k + 1) * 62 := HSTX.out.wait; omega⟩)
            have HBELX := Lib.hid HSTX.out.bel
            have HBX1 := Lib.hid HSTX.out.b1
            have HCR := Lib.hid (show ∀ keep tear, ∃ m' half' allX, SInv (crashL DX keep tear) 2 60 m' half' (encL allX) ∧ m' ≤ k + 1 ∧ longB allX = false ∧ allX = sX.2 from fun keep tear => ⟨_, _, sX.2, HSTX.out.inv.crash keep tear, HSTX.out.mark, HSTX.out.inv.short, rfl⟩)
            clear hvnX hvfX
            go_upto_region 17 with (fail)
            by_cases hnp : nn < lp
            · obtain ⟨pb, poff, pp, hpa, hpb, pc0, pc1⟩ := HPK.out.get nn hnp
              subst hpa
              have pc0 := (HBELX.out.cell (p := ⟨pb, poff + nn * 2, none⟩) hpb).trans pc0
              have pc1 := (HBELX.out.cell (p := ⟨pb, poff + nn * 2 + 1, none⟩) hpb).trans pc1
              have hpl : pb < xX.heap.size := Nat.lt_of_lt_of_le hpb HBELX.out.size
              obtain ⟨ka, kb⟩ := pp
              have pc0 : xX.cell? ⟨pb, poff + nn * 2, none⟩ = some (.int .i64 ka) := pc0
              have pc1 : xX.cell? ⟨pb, poff + nn * 2 + 1, none⟩ = some (.int .i64 kb) := pc1
              clear hpb
              have HKX := Lib.hid (show Below xX.heap.size xX (xX.alloc (.cells #[.int .i64 ka, .int .i64 kb] 61)) from (Below.refl _ _).alloc (Nat.le_refl _) _)
              have CC := Lib.hid (crash_any ka kb (HDX.out.bel HKX.out) (Nat.le_trans HBX1.out HKX.out.size) HGX.out.1 HGX.out.2)
              go_wp2_with fail
              refine CC.out.mono ?_
              rintro e y1 ⟨nd', VD1, rfl, d1, b1⟩
              have hbk : Below xX.heap.size xX y1 := HKX.out.trans (b1.mono HKX.out.size)
              obtain ⟨bs, hbs⟩ : ∃ bs, bs = (xX.alloc (.cells #[.int .i64 ka, .int .i64 kb] 61)).heap.size := ⟨_, rfl⟩
              rw [← hbs] at d1 b1
              have HBS := Lib.hid (show xX.heap.size ≤ bs by rw [hbs]; exact HKX.out.size)
              have HBSY := Lib.hid (show bs ≤ y1.heap.size by rw [hbs]; exact b1.size)
              obtain ⟨m', half', allX, hSI, hmk, hsh, hor⟩ := HCR.out ka kb
              have HOR := Lib.hid hor
              have HMK := Lib.hid hmk
              have CO := Lib.hid (reopen_any (f := 2) (M := 60) (m := m') (half := half') (all := allX) d1 HBSY.out (good_crash HGX.out.1 ka kb) rfl rfl hSI hsh (by omega))
              have HBK := Lib.hid hbk
              clear d1 b1 hbk hbs hSI hmk hor hsh CC HKX
              go_wp2_with fail
              refine CO.out.mono ?_
              rintro e y2 ⟨n', V2, rfl, l2, b2, hn2, hk2, hR2⟩
              have HR2 := Lib.hid hR2
              have HB2Y := Lib.hid (show y1.heap.size ≤ y2.heap.size from b2.size)
              have HB2 := Lib.hid (HBK.out.trans (b2.mono HBK.out.size))
              obtain ⟨LX, hLX⟩ : ∃ LX, LX = allX.length := ⟨_, rfl⟩
              have hLXb : LX ≤ 1000 := by have h8 := hR2.ok.count; rw [hLX]; have : (openedG 2 60 m' half' allX).size = 29 := rfl; have h9 : (openedG 2 60 m' half' allX).all = allX := rfl; rw [h9] at h8; omega
              have CA : Calls Try.prog 20 #[.pointer (some ⟨n', 0, none⟩)] y2 fun e w' => ∃ v', e = .returned v' ∧ w'.ownsRow y2.heap.size 9 1 v' LX (allX.map Value.string) ∧ Below y2.heap.size y2 w' := by
                rw [hLX]; exact lall_any l2 (by show allX.length ≤ _; rw [← hLX]; omega)
              have CA := Lib.hid CA
              have HL2 := Lib.hid l2
              have HLX := Lib.hid hLX
              clear l2 b2 hn2 hk2 hR2 hLX CO
              go_wp2_with fail
              refine CA.out.mono ?_
              rintro e y3 ⟨v3, rfl, o3, b3⟩
              have HB3 := Lib.hid (HB2.out.trans (b3.mono HB2.out.size))
              have HL3 := Lib.hid (HL2.out.bel b3)
              have HO3 := Lib.hid o3
              have HB3Y := Lib.hid (show y2.heap.size ≤ y3.heap.size from b3.size)
              have HN3 := Lib.hid (show ∀ j, v3.ownBlock = some j → ¬ OfL n' nd' V2 VD1 j from fun j e ho => by
                have h1 := own_ge o3 j e
                have h2 := HL2.out.of_lt j ho
                omega)
              have hsb3 : Box y3 sB 56 #[vnX, vfX] := (HB3.out.block sB HSBX.out.lt).trans HSBX.out
              have HSB3 := Lib.hid hsb3
              have HBO3 := Lib.hid (show Box y3 wr.heap.size 49 #[.int .i64 x.o.kd, .string x.o.s, .slice x.ad L x.cap] from (HB3.out.block _ HBOX.out.lt).trans HBOX.out)
              have htf3 := HTFX.out.below HB3.out (Nat.le_refl _)
              have HTF3 := Lib.hid htf3
              have HTN3 := Lib.hid (HTNX.out.below HB3.out (Nat.le_refl _))
              obtain ⟨a3, c3, rfl, _⟩ := own_shape o3
              obtain ⟨af, cf, hvf, htfx⟩ := htf3
              obtain ⟨lf, hlf⟩ : ∃ lf, lf = sX.2.length := ⟨_, rfl⟩
              rw [← hlf] at hvf
              subst hvf
              have HLF := Lib.hid hlf
              have CS := Lib.hid (same_any a3 af LX lf c3 cf allX sX.2 (txs_own o3 (by unfold maxLen; omega)) (by rw [hlf]; exact htfx.at_))
              have s1 : y3.cell? ⟨sB, 1, none⟩ = some (.slice af lf cf) := hsb3.cell 1
              have sl : sB < y3.heap.size := hsb3.lt
              clear o3 b3 hsb3 htfx hlf CA
              have HDE := Lib.hid (show decide (allX = sX.2) = true from decide_eq_true HOR.out)
              go_wp2_with fail
              refine CS.out.mono ?_
              rintro e y4 ⟨rfl, b4⟩
              rw [HDE.out]
              have HB9 := Lib.hid (HB3.out.trans (b4.mono HB3.out.size))
              have HL9 := Lib.hid (HL3.out.bel b4)
              have HO9 := Lib.hid (own_stays HO3.out (w' := y4) fun j hj => b4.block j (own_lt HO3.out j hj))
              have HSB9 := Lib.hid (show Box y4 sB 56 #[vnX, .slice af lf cf] from (b4.block sB HSB3.out.lt).trans HSB3.out)
              have HY9 := Lib.hid (show bs ≤ y4.heap.size from Nat.le_trans HBSY.out (Nat.le_trans (HB2Y.out) (Nat.le_trans HB3Y.out b4.size)))
              clear b4 CS s1 sl
              have hsb9 : Box y4 sB 56 #[vnX, .slice af lf cf] := HSB9.out
              have f0 := hsb9.frozen 0
              have f1 := hsb9.frozen 1
              have s0 : y4.cell? ⟨sB, 0, none⟩ = some vnX := hsb9.cell 0
              have s1 : y4.cell? ⟨sB, 1, none⟩ = some (.slice af lf cf) := hsb9.cell 1
              have sl : sB < y4.heap.size := hsb9.lt
              have hhp : ∀ j, j ≠ sB → ((y4.setCell ⟨sB, 0, none⟩ (.slice a3 LX c3)).setCell ⟨sB, 1, none⟩ (.slice a3 LX c3)).heap[j]? = y4.heap[j]? := fun j hj => (Below.heap_setCell _ _ _ _ hj).trans (Below.heap_setCell _ _ _ _ hj)
              have hnl := HL9.out.notBox hsb9 (by decide) (by decide) (by decide) (by decide) (by decide) (by decide)
              have hl10 : Ldg ((y4.setCell ⟨sB, 0, none⟩ (.slice a3 LX c3)).setCell ⟨sB, 1, none⟩ (.slice a3 LX c3)) bs n' nd' V2 VD1 (crashD DX ka kb) (openedG 2 60 m' half' allX) := HL9.out.stays fun j _ ho => hhp j (fun e => hnl (e ▸ ho))
              have HL10 := Lib.hid hl10
              have HSB10 := Lib.hid ((hsb9.set 0 (.slice a3 LX c3)).set 1 (.slice a3 LX c3))
              have ho10 : ((y4.setCell ⟨sB, 0, none⟩ (.slice a3 LX c3)).setCell ⟨sB, 1, none⟩ (.slice a3 LX c3)).ownsRow y2.heap.size 9 1 (.slice a3 LX c3) LX (allX.map Value.string) := own_stays HO9.out fun j hj => hhp j (by rintro rfl; exact own_box_ne HO9.out hsb9 (by decide) hj)
              have HT10 := Lib.hid (tv_own ho10 (by unfold maxLen; omega) HLX.out.symm)
              have hbel10 : Below w1.heap.size w1 ((y4.setCell ⟨sB, 0, none⟩ (.slice a3 LX c3)).setCell ⟨sB, 1, none⟩ (.slice a3 LX c3)) := ((HBELX.out.trans (HB9.out.mono HBELX.out.size)).setCell (p := ⟨sB, 0, none⟩) HSBG.out _).setCell (p := ⟨sB, 1, none⟩) HSBG.out _
              have HBEL10 := Lib.hid hbel10
              have CM := Lib.hid (arm_any at_ hl10.dsk)
              have HSZ10 := Lib.hid (show bs ≤ ((y4.setCell ⟨sB, 0, none⟩ (.slice a3 LX c3)).setCell ⟨sB, 1, none⟩ (.slice a3 LX c3)).heap.size by have h1 := HB9.out.size; have h2 := HY9.out; simp [World.setCell]; omega)
              have HAT := Lib.hid (show At (.slice a3 LX c3) (fun g => ¬ OfL n' nd' V2 VD1 g) from At.mk fun _ g off ea => HN3.out g (by subst ea; rfl))
              have HOL10 := Lib.hid (own_lt ho10)
              clear hsb9 hhp hnl hl10 ho10 hbel10
              go_wp2_with fail
              refine CM.out.mono ?_
              rintro e y11 ⟨rfl, d11, g11⟩
              have hl11 := HL10.out.disk d11 g11
              have hg11 : GoesL _ y11 n' nd' V2 V2 VD1 VD1 := GoesL.disk g11
              have hnl := HL10.out.notBox HSB10.out (by decide) (by decide) (by decide) (by decide) (by decide) (by decide)
              have HSB11 := Lib.hid (HSB10.out.touch hg11.touch hnl)
              have HT11 := Lib.hid (HT10.out.goes HAT.out hg11)
              have HST11 := Lib.hid (show St6 w1 bs n' nd' y11 (k + 1) (allX, allX) V2 VD1 (armD (crashD DX ka kb) at_) (openedG 2 60 m' half' allX) from
                ⟨hl11, rinv_arm HR2.out at_ HAMX.out, rfl, HMK.out, Nat.zero_le _, hg11.below HBEL10.out (Nat.le_refl _) (fun j hj => by have h1 := HL10.out.of_ge j hj; have h2 := HBS.out; have h3 := HBELX.out.size; omega), by have h2 := HBS.out; have h3 := HBELX.out.size; omega, Nat.le_trans HSZ10.out hg11.touch.size⟩)
              clear d11 g11 hl11 hg11 hnl CM
              go_wp2_with fail
              go_roundw
              case rel => exact ⟨k + 1, nn + 1, (allX, allX), bs, n', nd', V2, VD1, _, _, _, _, by omega, by omega, by go_num, rfl, rfl, by go_num, HST11.out, HSB11.out, HT11.out, HT11.out, HAT.out, HAT.out⟩
              case measure => simp [intOf]; omega
            · skip
              have HKX := Lib.hid (show Below xX.heap.size xX (xX.alloc (.cells #[.int .i64 0, .int .i64 0] 61)) from (Below.refl _ _).alloc (Nat.le_refl _) _)
              have CC := Lib.hid (crash_any 0 0 (HDX.out.bel HKX.out) (Nat.le_trans HBX1.out HKX.out.size) HGX.out.1 HGX.out.2)
              go_wp2_with fail
              refine CC.out.mono ?_
              rintro e y1 ⟨nd', VD1, rfl, d1, b1⟩
              have hbk : Below xX.heap.size xX y1 := HKX.out.trans (b1.mono HKX.out.size)
              obtain ⟨bs, hbs⟩ : ∃ bs, bs = (xX.alloc (.cells #[.int .i64 0, .int .i64 0] 61)).heap.size := ⟨_, rfl⟩
              rw [← hbs] at d1 b1
              have HBS := Lib.hid (show xX.heap.size ≤ bs by rw [hbs]; exact HKX.out.size)
              have HBSY := Lib.hid (show bs ≤ y1.heap.size by rw [hbs]; exact b1.size)
              obtain ⟨m', half', allX, hSI, hmk, hsh, hor⟩ := HCR.out 0 0
              have HOR := Lib.hid hor
              have HMK := Lib.hid hmk
              have CO := Lib.hid (reopen_any (f := 2) (M := 60) (m := m') (half := half') (all := allX) d1 HBSY.out (good_crash HGX.out.1 0 0) rfl rfl hSI hsh (by omega))
              have HBK := Lib.hid hbk
              clear d1 b1 hbk hbs hSI hmk hor hsh CC HKX
              go_wp2_with fail
              refine CO.out.mono ?_
              rintro e y2 ⟨n', V2, rfl, l2, b2, hn2, hk2, hR2⟩
              have HR2 := Lib.hid hR2
              have HB2Y := Lib.hid (show y1.heap.size ≤ y2.heap.size from b2.size)
              have HB2 := Lib.hid (HBK.out.trans (b2.mono HBK.out.size))
              obtain ⟨LX, hLX⟩ : ∃ LX, LX = allX.length := ⟨_, rfl⟩
              have hLXb : LX ≤ 1000 := by have h8 := hR2.ok.count; rw [hLX]; have : (openedG 2 60 m' half' allX).size = 29 := rfl; have h9 : (openedG 2 60 m' half' allX).all = allX := rfl; rw [h9] at h8; omega
              have CA : Calls Try.prog 20 #[.pointer (some ⟨n', 0, none⟩)] y2 fun e w' => ∃ v', e = .returned v' ∧ w'.ownsRow y2.heap.size 9 1 v' LX (allX.map Value.string) ∧ Below y2.heap.size y2 w' := by
                rw [hLX]; exact lall_any l2 (by show allX.length ≤ _; rw [← hLX]; omega)
              have CA := Lib.hid CA
              have HL2 := Lib.hid l2
              have HLX := Lib.hid hLX
              clear l2 b2 hn2 hk2 hR2 hLX CO
              go_wp2_with fail
              refine CA.out.mono ?_
              rintro e y3 ⟨v3, rfl, o3, b3⟩
              have HB3 := Lib.hid (HB2.out.trans (b3.mono HB2.out.size))
              have HL3 := Lib.hid (HL2.out.bel b3)
              have HO3 := Lib.hid o3
              have HB3Y := Lib.hid (show y2.heap.size ≤ y3.heap.size from b3.size)
              have HN3 := Lib.hid (show ∀ j, v3.ownBlock = some j → ¬ OfL n' nd' V2 VD1 j from fun j e ho => by
                have h1 := own_ge o3 j e
                have h2 := HL2.out.of_lt j ho
                omega)
              have hsb3 : Box y3 sB 56 #[vnX, vfX] := (HB3.out.block sB HSBX.out.lt).trans HSBX.out
              have HSB3 := Lib.hid hsb3
              have HBO3 := Lib.hid (show Box y3 wr.heap.size 49 #[.int .i64 x.o.kd, .string x.o.s, .slice x.ad L x.cap] from (HB3.out.block _ HBOX.out.lt).trans HBOX.out)
              have htf3 := HTFX.out.below HB3.out (Nat.le_refl _)
              have HTF3 := Lib.hid htf3
              have HTN3 := Lib.hid (HTNX.out.below HB3.out (Nat.le_refl _))
              obtain ⟨a3, c3, rfl, _⟩ := own_shape o3
              obtain ⟨af, cf, hvf, htfx⟩ := htf3
              obtain ⟨lf, hlf⟩ : ∃ lf, lf = sX.2.length := ⟨_, rfl⟩
              rw [← hlf] at hvf
              subst hvf
              have HLF := Lib.hid hlf
              have CS := Lib.hid (same_any a3 af LX lf c3 cf allX sX.2 (txs_own o3 (by unfold maxLen; omega)) (by rw [hlf]; exact htfx.at_))
              have s1 : y3.cell? ⟨sB, 1, none⟩ = some (.slice af lf cf) := hsb3.cell 1
              have sl : sB < y3.heap.size := hsb3.lt
              clear o3 b3 hsb3 htfx hlf CA
              have HDE := Lib.hid (show decide (allX = sX.2) = true from decide_eq_true HOR.out)
              go_wp2_with fail
              refine CS.out.mono ?_
              rintro e y4 ⟨rfl, b4⟩
              rw [HDE.out]
              have HB9 := Lib.hid (HB3.out.trans (b4.mono HB3.out.size))
              have HL9 := Lib.hid (HL3.out.bel b4)
              have HO9 := Lib.hid (own_stays HO3.out (w' := y4) fun j hj => b4.block j (own_lt HO3.out j hj))
              have HSB9 := Lib.hid (show Box y4 sB 56 #[vnX, .slice af lf cf] from (b4.block sB HSB3.out.lt).trans HSB3.out)
              have HY9 := Lib.hid (show bs ≤ y4.heap.size from Nat.le_trans HBSY.out (Nat.le_trans (HB2Y.out) (Nat.le_trans HB3Y.out b4.size)))
              clear b4 CS s1 sl
              have hsb9 : Box y4 sB 56 #[vnX, .slice af lf cf] := HSB9.out
              have f0 := hsb9.frozen 0
              have f1 := hsb9.frozen 1
              have s0 : y4.cell? ⟨sB, 0, none⟩ = some vnX := hsb9.cell 0
              have s1 : y4.cell? ⟨sB, 1, none⟩ = some (.slice af lf cf) := hsb9.cell 1
              have sl : sB < y4.heap.size := hsb9.lt
              have hhp : ∀ j, j ≠ sB → ((y4.setCell ⟨sB, 0, none⟩ (.slice a3 LX c3)).setCell ⟨sB, 1, none⟩ (.slice a3 LX c3)).heap[j]? = y4.heap[j]? := fun j hj => (Below.heap_setCell _ _ _ _ hj).trans (Below.heap_setCell _ _ _ _ hj)
              have hnl := HL9.out.notBox hsb9 (by decide) (by decide) (by decide) (by decide) (by decide) (by decide)
              have hl10 : Ldg ((y4.setCell ⟨sB, 0, none⟩ (.slice a3 LX c3)).setCell ⟨sB, 1, none⟩ (.slice a3 LX c3)) bs n' nd' V2 VD1 (crashD DX 0 0) (openedG 2 60 m' half' allX) := HL9.out.stays fun j _ ho => hhp j (fun e => hnl (e ▸ ho))
              have HL10 := Lib.hid hl10
              have HSB10 := Lib.hid ((hsb9.set 0 (.slice a3 LX c3)).set 1 (.slice a3 LX c3))
              have ho10 : ((y4.setCell ⟨sB, 0, none⟩ (.slice a3 LX c3)).setCell ⟨sB, 1, none⟩ (.slice a3 LX c3)).ownsRow y2.heap.size 9 1 (.slice a3 LX c3) LX (allX.map Value.string) := own_stays HO9.out fun j hj => hhp j (by rintro rfl; exact own_box_ne HO9.out hsb9 (by decide) hj)
              have HT10 := Lib.hid (tv_own ho10 (by unfold maxLen; omega) HLX.out.symm)
              have hbel10 : Below w1.heap.size w1 ((y4.setCell ⟨sB, 0, none⟩ (.slice a3 LX c3)).setCell ⟨sB, 1, none⟩ (.slice a3 LX c3)) := ((HBELX.out.trans (HB9.out.mono HBELX.out.size)).setCell (p := ⟨sB, 0, none⟩) HSBG.out _).setCell (p := ⟨sB, 1, none⟩) HSBG.out _
              have HBEL10 := Lib.hid hbel10
              have CM := Lib.hid (arm_any at_ hl10.dsk)
              have HSZ10 := Lib.hid (show bs ≤ ((y4.setCell ⟨sB, 0, none⟩ (.slice a3 LX c3)).setCell ⟨sB, 1, none⟩ (.slice a3 LX c3)).heap.size by have h1 := HB9.out.size; have h2 := HY9.out; simp [World.setCell]; omega)
              have HAT := Lib.hid (show At (.slice a3 LX c3) (fun g => ¬ OfL n' nd' V2 VD1 g) from At.mk fun _ g off ea => HN3.out g (by subst ea; rfl))
              have HOL10 := Lib.hid (own_lt ho10)
              clear hsb9 hhp hnl hl10 ho10 hbel10
              go_wp2_with fail
              refine CM.out.mono ?_
              rintro e y11 ⟨rfl, d11, g11⟩
              have hl11 := HL10.out.disk d11 g11
              have hg11 : GoesL _ y11 n' nd' V2 V2 VD1 VD1 := GoesL.disk g11
              have hnl := HL10.out.notBox HSB10.out (by decide) (by decide) (by decide) (by decide) (by decide) (by decide)
              have HSB11 := Lib.hid (HSB10.out.touch hg11.touch hnl)
              have HT11 := Lib.hid (HT10.out.goes HAT.out hg11)
              have HST11 := Lib.hid (show St6 w1 bs n' nd' y11 (k + 1) (allX, allX) V2 VD1 (armD (crashD DX 0 0) at_) (openedG 2 60 m' half' allX) from
                ⟨hl11, rinv_arm HR2.out at_ HAMX.out, rfl, HMK.out, Nat.zero_le _, hg11.below HBEL10.out (Nat.le_refl _) (fun j hj => by have h1 := HL10.out.of_ge j hj; have h2 := HBS.out; have h3 := HBELX.out.size; omega), by have h2 := HBS.out; have h3 := HBELX.out.size; omega, Nat.le_trans HSZ10.out hg11.touch.size⟩)
              clear d11 g11 hl11 hg11 hnl CM
              go_wp2_with fail
              go_roundw
              case rel => exact ⟨k + 1, nn + 1, (allX, allX), bs, n', nd', V2, VD1, _, _, _, _, by omega, by omega, by go_num, rfl, rfl, by go_num, HST11.out, HSB11.out, HT11.out, HT11.out, HAT.out, HAT.out⟩
              case measure => simp [intOf]; omega
      · obtain rfl : len = k := by omega
        clear hlt
        go_wp2_with fail
        refine (alive_any (w := wr)).mono ?_
        rintro e y2 ⟨rfl, b2⟩
        have HBZ := Lib.hid (HB1.out.trans ((HST.out.bel.trans (b2.mono HST.out.bel.size)).mono HB1.out.size))
        clear b2
        go_wp2_with fail
        go_ret
        exact ⟨rfl, HBZ.out⟩
theorem ledgerCrash_walk {H : Type} {enc : TypeId × Value → H} {base0 base2 : Nat} {p0 p2 : List MemPlace} (W : World) (v0 : Value) (d0 : DataW H) (hv0 : Value.okWide Try.prog W .any base0 46 v0) (h0 : DataW.Trod enc Try.prog W 0 (fun _ => true) true 46 v0 d0 p0) (_b0 : ∀ n ∈ d0.weights Try.prog 46, n ≤ 140737488351232)
    (a1 : Int) (w1 : (Lit.int .i64 a1).wf = true) (v2 : Value) (d2 : DataW H) (hv2 : Value.okWide Try.prog W .any base2 65 v2) (h2 : DataW.Trod enc Try.prog W 0 (fun _ => true) true 65 v2 d2 p2) (_b2 : ∀ n ∈ d2.weights Try.prog 65, n ≤ 140737488351232) :
    Calls Try.prog 9 #[v0, .int .i64 a1, v2] W fun e W' => e = .returned (.bool true) ∧ Below W.heap.size W W' := by
  obtain ⟨a, len, cap, xs, rfl, hP, q1, q2⟩ := open_ops hv0 h0
  obtain ⟨ap, lp, cp, ps, rfl, hQ, q3, q4⟩ := open_picks hv2 h2
  simp [Lit.wf, IntKind.min, IntKind.max, IntKind.signed, IntKind.bits] at w1
  exact crash_core W a len cap xs hP (by omega) a1 (by omega) ap lp cp ps hQ (by omega)
end Go.Proofs.Ytdiboicllolcnaa
