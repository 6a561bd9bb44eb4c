/- ledger: Replace. Conditions: the ledger lies in the call's own memory, the texts in memory that is none of its. -/
import Derived.Test.YtdiboicllolcnaaLn
namespace Go.Proofs.Ytdiboicllolcnaa
open Go Go.RowKit
set_option linter.unusedVariables false
set_option linter.unusedSimpArgs false
variable {w w' : World} {base n nd b0 : Nat} {V V' : Vl} {VD VD' : Vs} {D D' : Dk} {G G' : Lg}
theorem wrAll_good {first : Nat} {b : Sec} : ∀ (f k : Nat) (D : Dk), Good D → D.dead = false → (∀ j, j * 64 < b.length → first + j < D.now.length) →
    Good (wrAll first b f k D).1 ∧ (wrAll first b f k D).1.now.length = D.now.length ∧ (wrAll first b f k D).1.wait.length ≤ D.wait.length + f ∧ (wrAll first b f k D).1.dead = !(wrAll first b f k D).2 := by
  intro f
  induction f with
  | zero => intro k D hg hd _; exact ⟨hg, rfl, Nat.le_refl _, hd⟩
  | succ f ih =>
    intro k D hg hd hfit
    unfold wrAll
    have hcl : (chunk b k).length ≤ 64 := by rw [chunk_len]; omega
    split
    · rename_i hk
      have hg1 := good_wr1 hg (first + k) (chunk b k) (hfit k hk) hcl
      have hl1 := wr1_len D (first + k) (chunk b k)
      have hw1 := wr1_wait D (first + k) (chunk b k)
      have hd1 := wr1_dead (first + k) (chunk b k) hd
      split
      · rename_i hdb
        exact ⟨hg1, hl1, by show (wr1 D (first + k) (chunk b k)).wait.length ≤ _; omega, by rw [hd1]; exact hdb⟩
      · rename_i hdb
        obtain ⟨h1, h2, h3, h4⟩ := ih (k + 1) _ hg1 (by rw [hd1]; simpa using hdb) (fun j hj => by rw [hl1]; exact hfit j hj)
        exact ⟨h1, h2.trans hl1, by omega, h4⟩
    · exact ⟨hg, rfl, by show D.wait.length ≤ _; omega, hd⟩
theorem fits_half (hf : Fits G D) {half : Nat} (hh : half < 2) {b : Sec} (hb : b.length ≤ G.size * 64) : ∀ j, j * 64 < b.length → firstG G half + j < D.now.length := by
  intro j hj
  have h1 := hf.size
  have h2 : j < G.size := by omega
  have h3 : half * G.size ≤ 1 * G.size := Nat.mul_le_mul_right _ (by omega)
  unfold firstG
  omega
set_option maxRecDepth 100000 in
set_option maxHeartbeats 8000000 in
theorem replace_any (ad : Option Addr) (len cap : Nat) (xs : List ByteArray) (h : Ldg w base n nd V VD D G) (hb : base ≤ w.heap.size) (hf : Fits G D) (hg : Good D) (hd : D.dead = G.dead) (hwl : D.wait.length + G.size ≤ 800000)
    (hx : Txs w ad len xs) (hnil : ad = none → cap = 0) (hlc : len ≤ cap) (hl : len ≤ 2000) (hdis : len ≠ 0 → ∀ g off, ad = some ⟨g, off, none⟩ → ¬ OfL n nd V VD g) :
    Calls Try.prog 18 #[.pointer (some ⟨n, 0, none⟩), .slice ad len cap] w (RepPost w base n nd V VD D G xs) := by
  have HL := Lib.hid h
  have p8 : w.cell? ⟨n, 8, none⟩ = some (.bool G.dead) := h.box.cell 8
  have hbl := h.box.lt
  have HX := Lib.hid hx
  have HNIL := Lib.hid hnil
  have HDIS := Lib.hid hdis
  cases hG : G.dead with
  | true =>
    have HE := Lib.hid (show repNo G xs = 40 by unfold repNo; rw [if_pos hG])
    rw [hG] at p8
    clear h hf hg hd hG hx hnil hdis
    go_enter Try.func18, Try.ntmps18
    go_wp2_with fail
    go_ret
    exact rep_no HE.out (by decide) HL.out (GoesL.of_below (Below.refl _ _))
  | false =>
    have HY := Lib.hid hG
    rw [hG] at p8 hd
    have HF := Lib.hid hf
    have HGD := Lib.hid hg
    have HD := Lib.hid hd
    have HR0 := Lib.hid (show repNo G xs = if longB xs then 52 else if G.size * 64 < (encL xs).length then 51 else 0 by unfold repNo; rw [if_neg (by rw [hG]; decide)])
    have HWL := Lib.hid hwl
    have HXL := Lib.hid hx.1
    clear h hf hg hd hG hx hnil hdis hwl
    go_enter Try.func18, Try.ntmps18
    go_wp2_with fail
    go_loopw [5, 14] (fun v i wr => ∃ k : Nat, k ≤ len ∧ i = .int .i64 k ∧ wr.ownsRow w.heap.size 5 1 v (encL (xs.take k)).length (bc (encL (xs.take k))) ∧ Below w.heap.size w wr ∧ longB (xs.take k) = false) (fun _ i _ => len - (intOf i).toNat)
    case atStart => exact ⟨0, Nat.zero_le _, rfl, World.ownsRow_nil _ _ _ _, Below.refl _ _, rfl⟩
    case round =>
      obtain ⟨k, hk, rfl, hO, hB, hlo⟩ := hrel
      have HO := Lib.hid hO
      have HB := Lib.hid hB
      have HLO := Lib.hid hlo
      obtain ⟨av, cv, rfl, _⟩ := own_shape hO
      clear hO hlo
      by_cases hlt : k < len
      · obtain ⟨s, hs⟩ : ∃ s, xs[k]? = some s := ⟨_, List.getElem?_eq_getElem (by rw [HXL.out]; exact hlt)⟩
        obtain ⟨g, off, rfl, hgl, hc⟩ := HX.out.2.2.resolve_left (by omega)
        have hcell := (hB.cell (p := ⟨g, off + k, none⟩) hgl).trans (hc k s hs)
        have hgl2 : g < wr.heap.size := Nat.lt_of_lt_of_le hgl hB.size
        have HT := Lib.hid (show xs.take (k + 1) = xs.take k ++ [s] by rw [List.take_add_one, hs]; rfl)
        have HS := Lib.hid hs
        clear hc hB hs
        by_cases h4 : 4096 < s.size
        · have HE := Lib.hid (show repNo G xs = 52 by rw [HR0.out, if_pos (longB_at HS.out h4)])
          have h4' : (4096 : Int) < (s.size : Int) := by omega
          go_wp2_with fail
          go_ret
          exact rep_no HE.out (by decide) (HL.out.bel HB.out) (GoesL.of_below HB.out)
        · have h4' : ¬ (4096 : Int) < (s.size : Int) := by omega
          have hbl10 : (encL (xs.take k)).length ≤ 10000000 := by
            have := encL_len _ HLO.out
            have h2 : (xs.take k).length ≤ k := List.length_take_le _ _
            omega
          have C := Lib.hid (framed_any (.slice av (encL (xs.take k)).length cv) (encL (xs.take k)) s HO.out HB.out.size hbl10 (by omega))
          clear hbl10
          go_wp2_with fail
          refine C.out.mono ?_
          rintro e w5 ⟨v5, rfl, o5, t5⟩
          have HO5 := Lib.hid o5
          have HB5 := Lib.hid (Below.touch HB.out t5 (Nat.le_refl _) (own_ge HO.out))
          obtain ⟨a5, c5, rfl, _⟩ := own_shape o5
          clear o5 t5 C HO HB
          go_wp2_with fail
          go_roundw
          case rel =>
            refine ⟨k + 1, by omega, by go_num, ?_, HB5.out, ?_⟩
            · rw [HT.out, encL_snoc, List.length_append]; have := HO5.out; rw [List.length_append] at this; exact this
            · rw [HT.out, longB_app, HLO.out]; simp [longB]; omega
          case measure => simp [intOf]; omega
      · obtain rfl : k = len := by omega
        have hTK : xs.take k = xs := List.take_of_length_le (by rw [HXL.out]; exact Nat.le_refl _)
        rw [hTK] at HO HLO ⊢
        obtain ⟨b, hbE⟩ : ∃ b, b = encL xs := ⟨_, rfl⟩
        have hbl10 : b.length ≤ 10000000 := by
          have := encL_len _ HLO.out
          have h2 := HXL.out
          rw [hbE]
          omega
        rw [← hbE] at HO HR0 ⊢
        have HL1 := Lib.hid (HL.out.bel HB.out)
        have hbl1 := HL1.out.box.lt
        obtain ⟨S, hS⟩ : ∃ S, S = G.size * 64 := ⟨_, rfl⟩
        have C1 := bytes_any HL1.out HF.out
        rw [← hS] at C1 HR0
        have C1 := Lib.hid C1
        have hz1 := HF.out.size
        have hz2 := HF.out.disk
        have hSb : S ≤ 4194304 := by omega
        have HBE := Lib.hid hbE
        have HSE := Lib.hid hS
        clear hTK hS hlt hB hbE hbl
        by_cases hfull : S < b.length
        · have HE := Lib.hid (show repNo G xs = 51 by rw [HR0.out, if_neg (by rw [HLO.out]; decide), if_pos hfull])
          have hfull' : (S : Int) < (b.length : Int) := by omega
          go_wp2_with fail
          refine C1.out.mono ?_
          rintro e w5 ⟨rfl, rfl⟩
          go_wp2_with fail
          go_ret
          exact rep_no HE.out (by decide) HL1.out (GoesL.of_below HB.out)
        · have HE := Lib.hid (show repNo G xs = 0 by rw [HR0.out, if_neg (by rw [HLO.out]; decide), if_neg hfull])
          have hfull' : ¬ (S : Int) < (b.length : Int) := by omega
          have p4 : wr.cell? ⟨n, 4, none⟩ = some (.int .i64 (G.half : Nat)) := HL1.out.box.cell 4
          have hh := HF.out.half
          obtain ⟨H1, hH1⟩ : ∃ H1, H1 = 1 - G.half := ⟨_, rfl⟩
          have q1 : (1 : Int) - (G.half : Int) = (H1 : Int) := by omega
          have q2 : IntKind.i64.wrap (H1 : Int) = (H1 : Int) := by rw [IntKind.wrap_i64]; omega
          have hH2 : H1 < 2 := by omega
          have HH1 := Lib.hid hH1
          have C2 := Lib.hid (lwrite_any (b0 := w.heap.size) H1 0 av cv b HL1.out (Nat.le_trans hb HB.out.size) HF.out HGD.out hH2 HY.out HD.out HO.out (by omega) (by rw [← HSE.out]; omega) (Nat.le_trans HWL.out (by omega)))
          obtain ⟨r, hr⟩ : ∃ r, r = wrAll (firstG G H1) b (G.size + 1) (0 / 64) D := ⟨_, rfl⟩
          rw [← hr] at C2
          have HRW := Lib.hid (show repW D G xs = r by unfold repW; rw [hr, HBE.out, HH1.out])
          have HGR := Lib.hid (show Good r.1 ∧ r.1.now.length = D.now.length ∧ r.1.wait.length ≤ D.wait.length + (G.size + 1) ∧ r.1.dead = !r.2 by rw [hr]; exact wrAll_good _ _ _ HGD.out HD.out (fits_half HF.out hH2 (by rw [← HSE.out]; omega)))
          clear hr hH1 hfull hh
          go_wp2_with fail
          refine C1.out.mono ?_
          rintro e w5 ⟨rfl, rfl⟩
          go_wp2_with fail
          refine C2.out.mono ?_
          rintro e w5 ⟨VD5, rfl, l5, g5, o5⟩
          obtain ⟨Dr, ok⟩ := r
          have HG5 := Lib.hid ((GoesL.of_below (V := V) (VD := VD) (n := n) (nd := nd) HB.out).trans g5)
          have HG0 := Lib.hid g5
          cases ok with
          | false =>
            have HL5 := Lib.hid l5
            clear l5 g5 o5 C1 C2
            go_wp2_with fail
            go_ret
            refine ⟨V, VD5, ?_, ?_, HG5.out⟩
            · rw [repE, HE.out, HRW.out]; rfl
            · rw [repD, repG, HE.out, HRW.out]; exact HL5.out
          | true =>
            have hGG : ({ G with dead := !true } : Lg) = G := by
              show ({ G with dead := false } : Lg) = G
              rw [← HY.out]
            have l5' : Ldg w5 base n nd V VD5 Dr G := by rw [show ({ G with dead := !(Dr, true).2 } : Lg) = G from hGG] at l5; exact l5
            have HL5 := Lib.hid l5'
            have HO5 := Lib.hid o5
            have p4' : w5.cell? ⟨n, 4, none⟩ = some (.int .i64 (G.half : Nat)) := l5'.box.cell 4
            have hbl5 := l5'.box.lt
            have hf5 : Fits G Dr := by
              have h1 := HGR.out.2.1
              exact ⟨HF.out.size0, by rw [h1]; exact HF.out.size, by rw [h1]; exact HF.out.disk, HF.out.half, HF.out.b⟩
            have C3 := Lib.hid (seal_any H1 b.length HL5.out (Nat.le_trans hb HG5.out.touch.size) hf5 HGR.out.1 HY.out HGR.out.2.2.2 hH2 (by omega) (by have h3 : Dr.wait.length ≤ D.wait.length + (G.size + 1) := HGR.out.2.2.1; have := HWL.out; omega))
            obtain ⟨q, hq⟩ : ∃ q, q = sealR Dr G H1 b.length := ⟨_, rfl⟩
            have HQ := Lib.hid (show sealR (repW D G xs).1 G (1 - G.half) (encL xs).length = q by rw [HRW.out, ← HH1.out, ← HBE.out, hq])
            have hsg : sealG Dr G H1 b.length = if q.2 then { G with mark := nextM G.mark, half := H1, firm := b.length } else { G with dead := true } := by unfold sealG; rw [hq]
            have HSG := Lib.hid hsg
            have C4 : Calls Try.prog 42 #[.pointer (some ⟨n, 0, none⟩), .int .i64 H1, .int .i64 (b.length : Nat)] w5 fun e w' => ∃ VD', e = .returned (.int .i64 (if q.2 then 0 else 40)) ∧ Ldg w' base n nd V VD' q.1 (sealG Dr G H1 b.length) ∧ GoesL w5 w' n nd V V VD5 VD' := by
              rw [hq]; exact C3.out
            have C4 := Lib.hid C4
            clear hGG l5 l5' g5 o5 hf5 hq hsg C1 C2 C3 p4
            go_wp2_with fail
            refine C4.out.mono ?_
            rintro e w6 ⟨VD6, rfl, l6, g6⟩
            obtain ⟨Dq, okq⟩ := q
            have HG6 := Lib.hid (HG5.out.trans g6)
            rw [HSG.out] at l6
            cases okq with
            | false =>
              have HL6 := Lib.hid l6
              clear l6 g6 C4 p4'
              go_wp2_with fail
              go_ret
              refine ⟨V, VD6, ?_, ?_, HG6.out⟩
              · rw [repE, HE.out, HRW.out, ← HRW.out, HQ.out, HRW.out]; rfl
              · rw [repD, repG, HE.out, HQ.out, HRW.out]; exact HL6.out
            | true =>
              have HL6 := Lib.hid l6
              have HO6 := Lib.hid (show w6.ownsRow w.heap.size 5 1 (.slice av b.length cv) b.length (bc b) from own_touch HO5.out g6.touch (fun j hj ho => by
                have h1 := own_ge HO.out j hj
                have h2 := own_lt HO.out j hj
                rcases HG0.out.lies j ho with h3 | h3
                · have := HL.out.of_lt j h3; omega
                · omega))
              have HX6 := Lib.hid (show Txs w6 ad k xs from by
                by_cases h0 : k = 0
                · exact ⟨HXL.out, HX.out.2.1, .inl h0⟩
                · obtain ⟨g', off', e', hg', _⟩ := HX.out.2.2.resolve_left h0
                  refine (HX.out.bel HB.out).stays (fun g off e hg => ?_) (Nat.le_trans HG0.out.touch.size g6.touch.size)
                  have hgw : g < w.heap.size := by
                    rw [e] at e'
                    injection e' with e'
                    injection e' with e'
                    omega
                  exact (g6.touch.block g (Nat.lt_of_lt_of_le hg HG0.out.touch.size) (fun ho => by
                    rcases HG0.out.lies g ho with h3 | h3
                    · exact HDIS.out h0 g off e h3
                    · have := HB.out.size; omega)).trans (HG0.out.touch.block g hg (HDIS.out h0 g off e)))
              clear l6 g6 C4 p4'
              have hbl6 := HL6.out.box.lt
              have C7 := Lib.hid (clone_txs ad cap HX6.out HNIL.out (by omega))
              go_wp2_with fail
              refine C7.out.mono ?_
              rintro e w7 ⟨v7, rfl, o7, b7⟩
              have HX7 := Lib.hid (HL6.out.bel b7).box
              have p6 : w7.cell? ⟨n, 6, none⟩ = some V.b := HX7.out.cell 6
              have p7 : w7.cell? ⟨n, 7, none⟩ = some V.a := HX7.out.cell 7
              have f6 := HX7.out.frozen 6
              have f7 := HX7.out.frozen 7
              have hbl7 := HX7.out.lt
              have HD7 := Lib.hid (HL6.out.bel b7).dsk
              have HO7 := Lib.hid (own_stays HO6.out (w' := w7) fun j hj => b7.block j (own_lt HO6.out j hj))
              have HV7 := Lib.hid o7
              have HG7 := Lib.hid (HG6.out.below_r b7)
              obtain ⟨a7, c7, rfl, _⟩ := own_shape o7
              have HSZ7 := Lib.hid (show w.heap.size ≤ w6.heap.size from HG6.out.touch.size)
              clear o7 b7 C7 hbl6
              go_wp2_with fail
              go_ret
              have hs : ∀ k', k' ≠ n → ((w7.setCell ⟨n, 6, none⟩ (.slice av b.length cv)).setCell ⟨n, 7, none⟩ (.slice a7 k c7)).heap[k']? = w7.heap[k']? := fun k' hk => (Below.heap_setCell _ _ _ _ hk).trans (Below.heap_setCell _ _ _ _ hk)
              refine ⟨⟨.slice av b.length cv, .slice a7 k c7⟩, VD6, ?_, ?_, ?_⟩
              · rw [repE, HE.out, HRW.out, ← HRW.out, HQ.out, HRW.out]; rfl
              · rw [repD, repG, HE.out, HQ.out, HRW.out]
                show Ldg _ base n nd _ VD6 Dq { G with mark := nextM G.mark, half := 1 - G.half, firm := (encL xs).length, b := encL xs, all := xs }
                rw [← HH1.out, ← HBE.out]
                refine ⟨(HX7.out.set 6 (.slice av b.length cv)).set 7 (.slice a7 k c7), ?_, ?_, ?_, HL6.out.hn⟩
                · exact HD7.out.stays fun k' hk ho => hs k' (by rintro rfl; exact HD7.out.notBox HX7.out (by decide) (by decide) (by decide) ho)
                · exact own_base' (own_stays HO7.out fun k' hk => hs k' (by rintro rfl; exact own_box_ne HO7.out HX7.out (by decide) hk)) hb
                · show World.ownsRow _ base 9 1 _ xs.length (xs.map Value.string)
                  rw [HXL.out]
                  exact own_base' (own_stays HV7.out fun k' hk => hs k' (by rintro rfl; exact own_box_ne HV7.out HX7.out (by decide) hk)) (Nat.le_trans hb HSZ7.out)
              · refine ⟨(HG7.out.touch.setCell (p := ⟨n, 6, none⟩) (.inl rfl) _).setCell (p := ⟨n, 7, none⟩) (.inl rfl) _, ?_⟩
                rintro k' (h1 | h1 | h1 | h1)
                · exact .inl (.inl h1)
                · exact .inr (own_ge HO7.out k' h1)
                · exact .inr (Nat.le_trans HSZ7.out (own_ge HV7.out k' h1))
                · exact HG7.out.lies k' (.inr (.inr (.inr h1)))
end Go.Proofs.Ytdiboicllolcnaa
