/- ledger: Append where it writes. Conditions: the ledger lies in the call's own memory. -/
import Derived.Test.YtdiboicllolcnaaLi
namespace Go.Proofs.Ytdiboicllolcnaa
open Go Go.RowKit
set_option linter.unusedVariables false
set_option linter.unusedSimpArgs false
variable {w w' : World} {base n nd b0 : Nat} {V V' : Vl} {VD VD' : Vs} {D D' : Dk} {G G' : Lg}
theorem app_yes {s : ByteArray} (h : appNo G s = 0) : G.dead = false ∧ s.size ≤ 4096 ∧ (s.size : Int) ≤ roomI G := by
  unfold appNo at h
  split at h
  · cases h
  · rename_i h0
    split at h
    · cases h
    · split at h
      · cases h
      · exact ⟨by simpa using h0, by omega, by omega⟩
theorem app_room {s : ByteArray} (h : appNo G s = 0) : G.b.length + 4 + s.size ≤ G.size * 64 := by
  have := (app_yes h).2.2
  unfold roomI at this
  omega
set_option maxRecDepth 100000 in
set_option maxHeartbeats 8000000 in
theorem append_do (s : ByteArray) (h : Ldg w base n nd V VD D G) (hb : base ≤ w.heap.size) (hf : Fits G D) (hg : Good D) (hd : D.dead = false) (hn : appNo G s = 0) (hwl : D.wait.length + G.size ≤ 900000) (hal : G.all.length ≤ 10000000) :
    Calls Try.prog 14 #[.pointer (some ⟨n, 0, none⟩), .string s] w (AppPost w base n nd V VD D G s) := by
  obtain ⟨y1, y2, y3⟩ := app_yes hn
  have y4 := app_room hn
  have hz1 := hf.size
  have hz2 := hf.disk
  have HF := Lib.hid hf
  have HGD := Lib.hid hg
  have HD := Lib.hid hd
  have HL := Lib.hid h
  have HY := Lib.hid y1
  have HN := Lib.hid hn
  have HWL := Lib.hid hwl
  have p8 : w.cell? ⟨n, 8, none⟩ = some (.bool false) := by rw [← y1]; exact h.box.cell 8
  have hbl := h.box.lt
  obtain ⟨i0, hi, hy0, hy1, hy2⟩ := info_parts row9
  have HI := Lib.hid hi
  have HZZ := Lib.hid hy0
  have C := Lib.hid (room_any h hf)
  have h2 : ¬ (4096 : Int) < (s.size : Int) := by omega
  have h3 : ¬ roomI G < (s.size : Int) := by omega
  have hbl2 : G.b.length ≤ 10000000 := by omega
  obtain ⟨ab, cb, hvb, _⟩ := own_shape h.rb
  obtain ⟨aa, ca, hva, _⟩ := own_shape h.ra
  have HVB := Lib.hid hvb
  have HVA := Lib.hid hva
  clear h hf hg hd hn y1 hi hy0 hvb hva hwl
  go_enter Try.func14, Try.ntmps14
  go_wp2_with fail
  refine C.out.mono ?_
  rintro e w1 ⟨rfl, b1⟩
  have HL1 := Lib.hid (HL.out.bel b1)
  have HB1 := Lib.hid b1
  have hbl1 := HL1.out.box.lt
  have p6 : w1.cell? ⟨n, 6, none⟩ = some (.slice ab G.b.length cb) := by rw [← HVB.out]; exact HL1.out.box.cell 6
  have hr1 := HL1.out.rb
  rw [HVB.out] at hr1
  have C2 := Lib.hid (clone_bytes ab cb (bc_one _) hr1 (by omega))
  have HS1 := Lib.hid (show w.heap.size ≤ w1.heap.size from b1.size)
  clear b1 C p8 hbl hr1
  go_wp2_with fail
  refine C2.out.mono ?_
  rintro e w2 ⟨v2, rfl, o2, b2⟩
  have HS2 := Lib.hid (show w1.heap.size ≤ w2.heap.size from b2.size)
  have C3 := Lib.hid (framed_any v2 G.b s o2 b2.size hbl2 y2)
  have HO2 := Lib.hid o2
  have HB2 := Lib.hid b2
  obtain ⟨a2, c2, rfl, _⟩ := own_shape o2
  clear o2 b2 C2 p6 hbl1
  go_wp2_with fail
  refine C3.out.mono ?_
  rintro e w3 ⟨v3, rfl, o3, t3⟩
  have hB3 : Below w1.heap.size w1 w3 := Below.touch HB2.out t3 (Nat.le_refl _) (own_ge HO2.out)
  have HL3 := Lib.hid (HL1.out.bel hB3)
  have HG3 := Lib.hid ((GoesL.of_below (V := V) (VD := VD) (n := n) (nd := nd) HB1.out).below_r hB3)
  obtain ⟨b, hbE⟩ : ∃ b, b = G.b ++ frame s := ⟨_, rfl⟩
  have hbL : b.length = G.b.length + 4 + s.size := by rw [hbE, List.length_append, frame_len]; omega
  rw [← hbE] at o3
  obtain ⟨a3, c3, rfl, _⟩ := own_shape o3
  have HO3 := Lib.hid o3
  have HBE := Lib.hid hbE
  have HS3 := Lib.hid (show w1.heap.size ≤ w3.heap.size from hB3.size)
  have C4 := Lib.hid (lwrite_any (b0 := w1.heap.size) G.half G.b.length a3 c3 b HL3.out (by have := HS1.out; have := HS3.out; omega) HF.out HGD.out HF.out.half HY.out HD.out o3 hbl2 (by omega) HWL.out)
  have p4 : w3.cell? ⟨n, 4, none⟩ = some (.int .i64 (G.half : Nat)) := HL3.out.box.cell 4
  have hbl3 := HL3.out.box.lt
  have HBL := Lib.hid hbL
  clear o3 t3 hB3 hbE C3 hbL
  go_wp2_with fail
  refine C4.out.mono ?_
  rintro e w4 hP
  obtain ⟨r, hr⟩ : ∃ r, r = wrAll (firstG G G.half) b (G.size + 1) (G.b.length / 64) D := ⟨_, rfl⟩
  rw [← hr] at hP
  have HR := Lib.hid (show appW D G s = r by unfold appW; rw [hr, HBE.out])
  obtain ⟨VD4, he, L4, g4, o4⟩ := hP
  obtain ⟨Dr, ok⟩ := r
  clear hr C4 p4 hbl3
  cases ok with
  | false =>
    subst he
    have HL4 := Lib.hid L4
    have HG4 := Lib.hid (HG3.out.trans g4)
    clear L4 g4 o4
    go_wp2_with fail
    go_ret
    refine ⟨V, VD4, ?_, ?_, HG4.out⟩
    · rw [appE, HN.out, HR.out]; rfl
    · rw [appD, appG, HN.out, HR.out]; exact HL4.out
  | true =>
    subst he
    have hGG : ({ G with dead := !true } : Lg) = G := by
      show ({ G with dead := false } : Lg) = G
      rw [← HY.out]
    have L4' : Ldg w4 base n nd V VD4 Dr G := by
      have := L4
      rw [show ({ G with dead := !(Dr, true).2 } : Lg) = G from hGG] at this
      exact this
    have HL4 := Lib.hid L4'
    have HG4 := Lib.hid (HG3.out.trans g4)
    have HO4 := Lib.hid o4
    have HX4 := Lib.hid L4'.box
    have p7 : w4.cell? ⟨n, 7, none⟩ = some (.slice aa G.all.length ca) := by rw [← HVA.out]; exact L4'.box.cell 7
    have hbl4 := L4'.box.lt
    have hr4 := L4'.ra
    rw [HVA.out] at hr4
    have HRA := Lib.hid (own_stays hr4 (w' := w4.alloc (.cells #[.string s] 9)) fun k hk => Below.heap_alloc w4 _ k (own_lt hr4 k hk))
    have HXN := Box.new w4 9 #[Value.string s]
    have HSRC := Lib.hid (show Src (w4.alloc (.cells #[.string s] 9)) (some ⟨w4.heap.size, 0, none⟩) 1 1 [.string s] from ⟨rfl, text_one [s], .inr ⟨_, rfl, fun j u hj => by rw [Addr.add_lit, Nat.zero_add, HXN.cell j]; simpa using hj⟩⟩)
    have HSZ := Lib.hid (show base ≤ (w4.alloc (.cells #[.string s] 9)).heap.size by rw [World.size_alloc]; have := g4.touch.size; have := HS1.out; have := HS3.out; omega)
    clear hGG L4 L4' g4 o4 hr4 HXN
    go_wp2_with (at_builtin; refine wpList_append_at rfl (.tmp 49) (.tmp 51) 42 rfl base 9 i0 _ 1 16 Try.underlying42 HI.out HZZ.out hy1 hy2 rfl (by decide) _ _ _ rfl HRA.out _ _ _ _ rfl HSRC.out ?c2 ?c3 HSZ.out ?_)
    case c2 => unfold maxLen; omega
    case c3 => omega
    intro v5 w5 own5 g5 at5
    obtain ⟨a5, c5, rfl, _⟩ := own_shape own5
    have eA : V.a.ownBlock = (Value.slice aa G.all.length ca).ownBlock := by rw [HVA.out]
    have hX5 : Box w5 n 71 (lcs nd V G) := (HX4.out.alloc _).grown g5 (fun e => own_box_ne HRA.out (HX4.out.alloc _) (by decide) e.symm)
    have hLA : ∀ k, (Value.slice aa G.all.length ca).ownBlock = some k → k < w1.heap.size := fun k hk => own_lt HL1.out.ra k (eA.trans hk)
    have hB5 : w5.ownsRow w1.heap.size 5 1 (.slice a3 b.length c3) b.length (bc b) := own_stays HO4.out fun k hk => (g5.block k (by rw [World.size_alloc]; have := own_lt HO4.out k hk; omega) (fun e => by have h1 := hLA k e.symm; have h2 := own_ge HO4.out k hk; omega)).trans (Below.heap_alloc w4 _ k (own_lt HO4.out k hk))
    have hD5 : Dsk w5 base nd VD4 Dr := HL4.out.dsk.stays fun k hk ho => (g5.block k (by rw [World.size_alloc]; omega) (fun e => HL4.out.dsk.notRow HL4.out.ra (by decide) (by decide) (by decide) (eA.trans e.symm) ho)).trans (Below.heap_alloc w4 _ k hk)
    have hT5 : Touch (OfL n nd V VD) w w5 := (HG4.out.touch.alloc _).grown g5 (fun k hk => .inl (.inr (.inr (.inl (eA.trans hk)))))
    have hV5 : ∀ k, (Value.slice a5 (G.all.length + 1) c5).ownBlock = some k → V.a.ownBlock = some k ∨ w.heap.size ≤ k := by
      intro k hk
      rcases at5 with h | h
      · exact .inl (eA.trans (h.symm.trans hk))
      · have h1 := hk.symm.trans h
        have h2 := HG4.out.touch.size
        simp at h1
        exact .inr (by omega)
    have HX5 := Lib.hid hX5
    have HB5 := Lib.hid hB5
    have HD5 := Lib.hid hD5
    have HT5 := Lib.hid hT5
    have HV5 := Lib.hid hV5
    have HO5 := Lib.hid own5
    have p6 : w5.cell? ⟨n, 6, none⟩ = some V.b := hX5.cell 6
    have p7' : w5.cell? ⟨n, 7, none⟩ = some V.a := hX5.cell 7
    have f6 := hX5.frozen 6
    have f7 := hX5.frozen 7
    have hbl5 := hX5.lt
    clear hX5 hB5 hD5 hT5 hV5 own5 at5 eA hLA p7 hbl4 HSRC HRA g5
    go_wp2_with fail
    go_ret
    have hs : ∀ k, k ≠ n → ((w5.setCell ⟨n, 6, none⟩ (.slice a3 b.length c3)).setCell ⟨n, 7, none⟩ (.slice a5 (G.all.length + 1) c5)).heap[k]? = w5.heap[k]? := fun k hk => (Below.heap_setCell _ _ _ _ hk).trans (Below.heap_setCell _ _ _ _ hk)
    refine ⟨⟨.slice a3 b.length c3, .slice a5 (G.all.length + 1) c5⟩, VD4, ?_, ?_, ?_⟩
    · rw [appE, HN.out, HR.out]; rfl
    · rw [appD, appG, HN.out, HR.out]
      show Ldg _ base n nd _ VD4 Dr { G with b := G.b ++ frame s, all := G.all ++ [s] }
      rw [← HBE.out]
      refine ⟨(HX5.out.set 6 (.slice a3 b.length c3)).set 7 (.slice a5 (G.all.length + 1) c5), ?_, ?_, ?_, HL4.out.hn⟩
      · exact HD5.out.stays fun k hk ho => hs k (by rintro rfl; exact HD5.out.notBox HX5.out (by decide) (by decide) (by decide) ho)
      · exact own_base' (own_stays HB5.out fun k hk => hs k (by rintro rfl; exact own_box_ne HB5.out HX5.out (by decide) hk)) (Nat.le_trans hb HS1.out)
      · have h1 := own_stays HO5.out fun k hk => hs k (by rintro rfl; exact own_box_ne HO5.out HX5.out (by decide) hk)
        have e1 : (G.all ++ [s]).length = G.all.length + 1 := by simp
        have e2 : (G.all ++ [s]).map Value.string = G.all.map Value.string ++ [.string s] := by simp
        show World.ownsRow _ base 9 1 _ (G.all ++ [s]).length ((G.all ++ [s]).map Value.string)
        rw [e1, e2]
        exact h1
    · refine ⟨(HT5.out.setCell (p := ⟨n, 6, none⟩) (.inl rfl) _).setCell (p := ⟨n, 7, none⟩) (.inl rfl) _, ?_⟩
      rintro k (h1 | h1 | h1 | h1)
      · exact .inl (.inl h1)
      · exact .inr (Nat.le_trans HS1.out (own_ge HB5.out k h1))
      · rcases HV5.out k h1 with h2 | h2
        · exact .inl (.inr (.inr (.inl h2)))
        · exact .inr h2
      · exact HG4.out.lies k (.inr (.inr (.inr h1)))
end Go.Proofs.Ytdiboicllolcnaa
