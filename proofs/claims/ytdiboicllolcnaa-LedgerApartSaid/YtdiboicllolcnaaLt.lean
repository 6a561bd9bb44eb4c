/- ledger: the document's state behind a call (Do), what would last (Next). Conditions: the texts lie in memory. -/
import Derived.Test.YtdiboicllolcnaaLs
namespace Go.Proofs.Ytdiboicllolcnaa
open Go Go.RowKit
set_option linter.unusedVariables false
set_option linter.unusedSimpArgs false
variable {w w' : World} {base n nd b0 : Nat} {V V' : Vl} {VD VD' : Vs} {D D' : Dk} {G G' : Lg}
/-- a slice of texts. -/
def Tv (w : World) (v : Value) (xs : List ByteArray) : Prop := ∃ ad cap, v = .slice ad xs.length cap ∧ TxIn w ad cap xs
theorem Tv.below {v : Value} {xs : List ByteArray} {B : Nat} (h : Tv w v xs) (hb : Below B w w') (hB : w.heap.size ≤ B) : Tv w' v xs := by
  obtain ⟨ad, cap, rfl, ht⟩ := h
  exact ⟨ad, cap, rfl, ht.below hb hB⟩
theorem tv_own {b0 m : Nat} {v : Value} {xs : List ByteArray} (h : w.ownsRow b0 9 1 v m (xs.map Value.string)) (hm : m ≤ maxLen) (hl : xs.length = m) : Tv w v xs := by
  have hsh := own_shape h
  obtain ⟨ad, c, rfl, hcap⟩ := hsh
  refine ⟨ad, c, by rw [hl], ⟨by rw [hl]; exact txs_own h hm, fun e => ?_, ?_⟩⟩
  · subst e
    rcases h.2 with ⟨h0, _⟩ | ⟨g, cap, cur, h0, _⟩
    · injection h0
    · cases h0
  · rcases h.2 with ⟨h0, h1⟩ | ⟨g, cap, cur, h0, _, _, hc, _⟩
    · omega
    · injection h0 with h0 h1 h2; omega
def doN (o : Op5) (e : Int) (s : List ByteArray × List ByteArray) : List ByteArray × List ByteArray :=
  if e ≠ 0 then s else if o.kd = 0 then (s.1 ++ [o.s], s.2) else if o.kd = 1 then (s.1, s.1) else if o.kd = 2 then (o.all, o.all) else s
def nextN (o : Op5) (s : List ByteArray × List ByteArray) : List ByteArray := if o.kd = 1 then s.1 else if o.kd = 2 then o.all else s.2
/-- a slice lies where P says. -/
def At (v : Value) (P : Nat → Prop) : Prop := ∀ ad len cap, v = .slice ad len cap → len ≠ 0 → ∀ g off, ad = some ⟨g, off, none⟩ → P g
theorem At.mk {ad : Option Addr} {len cap : Nat} {P : Nat → Prop} (h : len ≠ 0 → ∀ g off, ad = some ⟨g, off, none⟩ → P g) : At (.slice ad len cap) P := by
  intro ad' len' cap' e
  injection e with e1 e2 e3
  subst e1 e2
  exact h
theorem At.mono {v : Value} {P Q : Nat → Prop} (h : At v P) (hq : ∀ g, P g → Q g) : At v Q := fun ad len cap e h0 g off ea => hq g (h ad len cap e h0 g off ea)
theorem own_addr {e size m c b0 g off : Nat} {ad : Option Addr} {xs : List Value} (h : w.ownsRow b0 e size (.slice ad m c) m xs) (ha : ad = some ⟨g, off, none⟩) : b0 ≤ g ∧ g < w.heap.size := by
  subst ha
  rcases h.2 with ⟨h0, _⟩ | ⟨g', cap, cur, h0, hb, hg, _⟩
  · cases h0
  · injection h0 with h1 h2 h3
    injection h1 with h1
    injection h1 with h1
    subst h1
    refine ⟨hb, ?_⟩
    rcases Nat.lt_or_ge g w.heap.size with h4 | h4
    · exact h4
    · rw [Array.getElem?_eq_none h4] at hg; cases hg
def DoPost (w : World) (v1 v2 v3 : Value) (s : List ByteArray × List ByteArray) (e : Ending) (w' : World) : Prop :=
  ∃ vn vf, e = .returned (.agg #[vn, vf]) ∧ Tv w' vn s.1 ∧ Tv w' vf s.2 ∧ Below w.heap.size w w' ∧ ∀ P : Nat → Prop, At v1 P → At v2 P → At v3 P → (∀ j, w.heap.size ≤ j → j < w'.heap.size → P j) → At vn P ∧ At vf P
structure Three (w w0 : World) (cs cs2 : Array Value) : Prop where
  s : Box w0 w.heap.size 56 cs
  o : Box w0 (w.heap.size + 1) 49 cs2
  r : Box w0 (w.heap.size + 1 + 1) 56 #[.slice none 0 0, .slice none 0 0]
  b : Below w.heap.size w w0
  z : w0.heap.size = w.heap.size + 1 + 1 + 1
theorem Three.new (w : World) (cs cs2 : Array Value) : Three w (((w.alloc (.cells cs 56)).alloc (.cells cs2 49)).alloc (.cells #[.slice none 0 0, .slice none 0 0] 56)) cs cs2 := by
  refine ⟨((Box.new w 56 cs).alloc _).alloc _, ?_, ?_, (((Below.refl w.heap.size w).alloc (Nat.le_refl _) _).alloc (by simp) _).alloc (by simp; omega) _, by simp⟩
  · have := Box.new (w.alloc (.cells cs 56)) 49 cs2; rw [World.size_alloc] at this; exact this.alloc _
  · have := Box.new ((w.alloc (.cells cs 56)).alloc (.cells cs2 49)) 56 #[.slice none 0 0, .slice none 0 0]; rwa [World.size_alloc, World.size_alloc] at this
theorem und56 : ∃ d, Try.prog.underlying 56 = some d ∧ d.isRow = true := by
  refine ⟨_, Try.underlying56, rfl⟩
theorem isz56 : (Try.prog.info? 56).map (·.size) = some 2 := by kernel_rfl
set_option maxRecDepth 100000 in
set_option maxHeartbeats 8000000 in
theorem do_any (o : Op5) (e : Int) (ad : Option Addr) (cap : Nat) (vn vf : Value) (s : List ByteArray × List ByteArray) (hn : Tv w vn s.1) (hf : Tv w vf s.2) (hx : TxIn w ad cap o.all) (hl : s.1.length ≤ 10000000) :
    Calls Try.prog 24 #[.agg #[vn, vf], ov o ad cap, .int .i64 e] w (DoPost w vn vf (.slice ad o.all.length cap) (doN o e s)) := by
  obtain ⟨an, cn, rfl, hTn⟩ := hn
  obtain ⟨af, cf, rfl, hTf⟩ := hf
  obtain ⟨ln, hln⟩ : ∃ ln, ln = s.1.length := ⟨_, rfl⟩
  obtain ⟨lf, hlf⟩ : ∃ lf, lf = s.2.length := ⟨_, rfl⟩
  obtain ⟨len, hlen⟩ : ∃ len, len = o.all.length := ⟨_, rfl⟩
  have h3 := Three.new w #[.slice an ln cn, .slice af lf cf] #[.int .i64 o.kd, .string o.s, .slice ad len cap]
  have hov : ov o ad cap = .agg #[.int .i64 o.kd, .string o.s, .slice ad len cap] := by rw [hlen]
  rw [hov, ← hln, ← hlf, ← hlen]
  have HR := Lib.hid (show doN o e s = if e ≠ 0 then s else if o.kd = 0 then (s.1 ++ [o.s], s.2) else if o.kd = 1 then (s.1, s.1) else if o.kd = 2 then (o.all, o.all) else s from rfl)
  obtain ⟨r, hr⟩ : ∃ r, r = doN o e s := ⟨_, rfl⟩
  rw [← hr] at HR ⊢
  have HLN := Lib.hid hln
  have HLF := Lib.hid hlf
  have HLEN := Lib.hid hlen
  have HTN := Lib.hid hTn
  have HTF := Lib.hid hTf
  have HTX := Lib.hid hx
  rw [← hln] at hl
  clear hr hln hlf hlen hTn hTf hx hov
  by_cases he : e = 0
  rotate_left
  · have he' : (e != 0) = true := by simpa using he
    have HE := Lib.hid (show r = s by rw [HR.out, if_pos he])
    clear he
    go_enter Try.func24, Try.ntmps24
    go_wp2_with fail
    have hbx := Box.new ((w.alloc (.cells #[.slice an ln cn, .slice af lf cf] 56)).alloc (.cells #[.int .i64 o.kd, .string o.s, .slice ad len cap] 49)) 56 #[.slice an ln cn, .slice af lf cf]
    rw [World.size_alloc, World.size_alloc] at hbx
    have hbb : Below w.heap.size w (((w.alloc (.cells #[.slice an ln cn, .slice af lf cf] 56)).alloc (.cells #[.int .i64 o.kd, .string o.s, .slice ad len cap] 49)).alloc (.cells #[.slice an ln cn, .slice af lf cf] 56)) := (((Below.refl w.heap.size w).alloc (Nat.le_refl _) _).alloc (by simp) _).alloc (by simp; omega) _
    refine ret_c rfl rfl rfl (hbx.load Try.underlying56 rfl (by kernel_rfl)) ⟨_, _, rfl, ?_, ?_, hbb, fun P p1 p2 p3 p4 => ⟨p1, p2⟩⟩
    · rw [HE.out]; exact ⟨an, cn, by rw [HLN.out], HTN.out.below hbb (Nat.le_refl _)⟩
    · rw [HE.out]; exact ⟨af, cf, by rw [HLF.out], HTF.out.below hbb (Nat.le_refl _)⟩
  · subst he
    have H3 := Lib.hid h3
    clear h3
    by_cases h0 : o.kd = 0
    · have HE := Lib.hid (show r = (s.1 ++ [o.s], s.2) by rw [HR.out, if_neg (by simp), if_pos h0])
      rw [h0] at H3 ⊢
      clear h0 HR
      obtain ⟨i0, hi, hz0, hz1, hz2⟩ := info_parts row9
      have HI := Lib.hid hi
      have HZZ := Lib.hid hz0
      clear hi hz0
      go_enter Try.func24, Try.ntmps24
      go_upto_region 4 with (fail)
      refine wp_name (fun W => Three w W #[.slice an ln cn, .slice af lf cf] #[.int .i64 0, .string o.s, .slice ad len cap]) H3.out ?_
      clear H3
      rintro w0 h3
      have H3 := Lib.hid h3
      have s0 := h3.s.cell 0
      have HSZ := Lib.hid h3.z
      have hlz : w.heap.size < w0.heap.size := h3.s.lt
      have hlz1 : w.heap.size + 1 < w0.heap.size := h3.o.lt
      have HO1 := Lib.hid (World.ownsRow_lit (base := w.heap.size) (e := 9) (size := 1) w0 #[] 0 h3.b.size (by decide) rfl)
      have HB0 := Lib.hid (h3.b.alloc h3.b.size (.cells #[] 9))
      have HS1 := Lib.hid (((HTN.out.below HB0.out (Nat.le_refl _)).at_).src)
      rw [← HLN.out] at HS1
      have HBS := Lib.hid (show w.heap.size ≤ (w0.alloc (.cells #[] 9)).heap.size by have := HB0.out.size; exact this)
      have s0' : w0.cell? ⟨w.heap.size, 0, none⟩ = some (.slice an ln cn) := s0
      clear h3 s0
      go_wp2_with (at_builtin; refine wpList_append_at rfl (.tmp 14) (.tmp 16) 42 rfl w.heap.size 9 i0 _ 1 16 Try.underlying42 HI.out HZZ.out hz1 hz2 rfl (by decide) _ _ _ rfl HO1.out _ _ _ _ rfl HS1.out (by unfold maxLen; omega) (by omega) HBS.out ?_)
      intro v2 w2 own2 g2 at2
      have own2' : w2.ownsRow w.heap.size 9 1 v2 ln (s.1.map Value.string) := by simpa using own2
      have HB2 := Lib.hid (HB0.out.grown g2 HBS.out (own_ge HO1.out))
      have hO2 : Box w2 (w.heap.size + 1) 49 #[.int .i64 0, .string o.s, .slice ad len cap] := (H3.out.o.alloc _).grown g2 (fun e => own_box_ne HO1.out (H3.out.o.alloc _) (by decide) e.symm)
      have hS2 : Box w2 w.heap.size 56 #[.slice an ln cn, .slice af lf cf] := (H3.out.s.alloc _).grown g2 (fun e => own_box_ne HO1.out (H3.out.s.alloc _) (by decide) e.symm)
      have hR2 : Box w2 (w.heap.size + 1 + 1) 56 #[.slice none 0 0, .slice none 0 0] := (H3.out.r.alloc _).grown g2 (fun e => own_box_ne HO1.out (H3.out.r.alloc _) (by decide) e.symm)
      have HO2 := Lib.hid own2'
      obtain ⟨a2, c2, rfl, _⟩ := own_shape own2'
      have HBO := Lib.hid hO2
      have HBSS := Lib.hid hS2
      have HBR := Lib.hid hR2
      have o1 : w2.cell? ⟨w.heap.size + 1, 1, none⟩ = some (.string o.s) := hO2.cell 1
      have hlo : w.heap.size + 1 < w2.heap.size := hO2.lt
      have HXN := Box.new w2 9 #[Value.string o.s]
      have HSRC := Lib.hid (show Src (w2.alloc (.cells #[.string o.s] 9)) (some ⟨w2.heap.size, 0, none⟩) 1 1 [.string o.s] from ⟨rfl, text_one [o.s], .inr ⟨_, rfl, fun j u hj => by rw [Addr.add_lit, Nat.zero_add, HXN.cell j]; simpa using hj⟩⟩)
      have HRA := Lib.hid (own_stays HO2.out (w' := w2.alloc (.cells #[.string o.s] 9)) fun k hk => Below.heap_alloc w2 _ k (own_lt HO2.out k hk))
      have HB3 := Lib.hid (HB2.out.alloc HB2.out.size (.cells #[.string o.s] 9))
      have HSZ3 := Lib.hid (show w.heap.size ≤ (w2.alloc (.cells #[.string o.s] 9)).heap.size from HB3.out.size)
      clear own2 own2' g2 at2 hO2 hS2 hR2 HXN HO1 HS1 HBS HB0 hlz hlz1 s0'
      go_wp2_with (at_builtin; refine wpList_append_at rfl (.tmp 18) (.tmp 21) 42 rfl w.heap.size 9 i0 _ 1 16 Try.underlying42 HI.out HZZ.out hz1 hz2 rfl (by decide) _ _ _ rfl HRA.out _ _ _ _ rfl HSRC.out (by unfold maxLen; omega) (by omega) HSZ3.out ?_)
      intro v3 w3 own3 g3 at3
      have hO3 := (HBO.out.alloc (.cells #[.string o.s] 9)).grown g3 (fun e => own_box_ne HRA.out (HBO.out.alloc _) (by decide) e.symm)
      have hS3 := (HBSS.out.alloc (.cells #[.string o.s] 9)).grown g3 (fun e => own_box_ne HRA.out (HBSS.out.alloc _) (by decide) e.symm)
      have hR3 := (HBR.out.alloc (.cells #[.string o.s] 9)).grown g3 (fun e => own_box_ne HRA.out (HBR.out.alloc _) (by decide) e.symm)
      have HB4 := Lib.hid (HB3.out.grown g3 HSZ3.out (own_ge HRA.out))
      have HO3 := Lib.hid own3
      obtain ⟨a3, c3, rfl, _⟩ := own_shape own3
      have o0 : w3.cell? ⟨w.heap.size + 1, 0, none⟩ = some (.int .i64 0) := hO3.cell 0
      have s0 : w3.cell? ⟨w.heap.size, 0, none⟩ = some (.slice an ln cn) := hS3.cell 0
      have s1 : w3.cell? ⟨w.heap.size, 1, none⟩ = some (.slice af lf cf) := hS3.cell 1
      have r0 : w3.cell? ⟨w.heap.size + 1 + 1, 0, none⟩ = some (.slice none 0 0) := hR3.cell 0
      have r1 : w3.cell? ⟨w.heap.size + 1 + 1, 1, none⟩ = some (.slice none 0 0) := hR3.cell 1
      have fs := hS3.frozen 0
      have fr0 := hR3.frozen 0
      have fr1 := hR3.frozen 1
      have hl0 : w.heap.size < w3.heap.size := hS3.lt
      have hl1 : w.heap.size + 1 < w3.heap.size := hO3.lt
      have hl2 : w.heap.size + 1 + 1 < w3.heap.size := hR3.lt
      have HBS3 := Lib.hid hS3
      have HBR3 := Lib.hid hR3
      clear own3 g3 at3 hO3 hS3 hR3 HRA HSRC HB3 HSZ3 HB2 HO2 HBO HBSS HBR o1 hlo
      go_wp2_with fail
      have hb6 := ((HB4.out.setCell (p := ⟨w.heap.size, 0, none⟩) (Nat.le_refl _) (.slice a3 (ln + 1) c3)).setCell (p := ⟨w.heap.size + 1 + 1, 0, none⟩) (by show _ ≤ w.heap.size + 1 + 1; omega) (.slice a3 (ln + 1) c3)).setCell (p := ⟨w.heap.size + 1 + 1, 1, none⟩) (by show _ ≤ w.heap.size + 1 + 1; omega) (.slice af lf cf)
      have hx6 := ((HBR3.out.set_other (p := ⟨w.heap.size, 0, none⟩) (by show w.heap.size + 1 + 1 ≠ w.heap.size; omega) (.slice a3 (ln + 1) c3)).set 0 (.slice a3 (ln + 1) c3)).set 1 (.slice af lf cf)
      refine ret_c rfl rfl rfl (Box.load hx6 Try.underlying56 rfl (by kernel_rfl)) ⟨.slice a3 (ln + 1) c3, .slice af lf cf, rfl, ?_, ?_, hb6, fun P p1 p2 p3 p4 => ⟨At.mk fun _ g off ea => p4 g (own_addr HO3.out ea).1 (Nat.lt_of_lt_of_le (own_addr HO3.out ea).2 (by simp [World.setCell])), p2⟩⟩
      · rw [HE.out]
        have e1 : (s.1 ++ [o.s]).map Value.string = s.1.map Value.string ++ [.string o.s] := by simp
        refine tv_own (b0 := w.heap.size) (m := ln + 1) ?_ (by unfold maxLen; omega) (by simp [HLN.out])
        show World.ownsRow _ _ _ _ _ _ ((s.1 ++ [o.s]).map Value.string)
        rw [e1]
        exact own_stays HO3.out fun k hk => ((Below.heap_setCell _ _ _ _ (by rintro rfl; exact own_box_ne HO3.out HBR3.out (by decide) hk)).trans (Below.heap_setCell _ _ _ _ (by rintro rfl; exact own_box_ne HO3.out HBR3.out (by decide) hk))).trans (Below.heap_setCell _ _ _ _ (by rintro rfl; exact own_box_ne HO3.out HBS3.out (by decide) hk))
      · rw [HE.out]; exact ⟨af, cf, by rw [HLF.out], HTF.out.below hb6 (Nat.le_refl _)⟩
    by_cases h1 : o.kd = 1
    · have HE := Lib.hid (show r = (s.1, s.1) by rw [HR.out, if_neg (by simp), if_neg h0, if_pos h1])
      rw [h1] at H3 ⊢
      clear h0 h1 HR
      go_enter Try.func24, Try.ntmps24
      go_upto_region 3 with (fail)
      refine wp_name (fun W => Three w W #[.slice an ln cn, .slice af lf cf] #[.int .i64 1, .string o.s, .slice ad len cap]) H3.out ?_
      clear H3
      rintro w3 h3
      have H3 := Lib.hid h3
      have o0 : w3.cell? ⟨w.heap.size + 1, 0, none⟩ = some (.int .i64 1) := h3.o.cell 0
      have o2 : w3.cell? ⟨w.heap.size + 1, 2, none⟩ = some (.slice ad len cap) := h3.o.cell 2
      have s0 : w3.cell? ⟨w.heap.size, 0, none⟩ = some (.slice an ln cn) := h3.s.cell 0
      have s1 : w3.cell? ⟨w.heap.size, 1, none⟩ = some (.slice af lf cf) := h3.s.cell 1
      have r0 : w3.cell? ⟨w.heap.size + 1 + 1, 0, none⟩ = some (.slice none 0 0) := h3.r.cell 0
      have r1 : w3.cell? ⟨w.heap.size + 1 + 1, 1, none⟩ = some (.slice none 0 0) := h3.r.cell 1
      have fs0 := h3.s.frozen 0
      have fs1 := h3.s.frozen 1
      have fr0 := h3.r.frozen 0
      have fr1 := h3.r.frozen 1
      have hl0 : w.heap.size < w3.heap.size := h3.s.lt
      have hl1 : w.heap.size + 1 < w3.heap.size := h3.o.lt
      have hl2 : w.heap.size + 1 + 1 < w3.heap.size := h3.r.lt
      clear h3
      go_wp2_with fail
      have hb6 := (((H3.out.b.setCell (p := ⟨w.heap.size, 1, none⟩) (by show _ ≤ w.heap.size; omega) (.slice an ln cn)).setCell (p := ⟨w.heap.size + 1 + 1, 0, none⟩) (by show _ ≤ w.heap.size + 1 + 1; omega) (.slice an ln cn)).setCell (p := ⟨w.heap.size + 1 + 1, 1, none⟩) (by show _ ≤ w.heap.size + 1 + 1; omega) (.slice an ln cn))
      have hx6 := (((H3.out.r.set_other (p := ⟨w.heap.size, 1, none⟩) (by show w.heap.size + 1 + 1 ≠ w.heap.size; omega) (.slice an ln cn)).set 0 (.slice an ln cn)).set 1 (.slice an ln cn))
      refine ret_c rfl rfl rfl (Box.load hx6 Try.underlying56 rfl (by kernel_rfl)) ⟨.slice an ln cn, .slice an ln cn, rfl, ?_, ?_, hb6, fun P p1 p2 p3 p4 => ⟨p1, p1⟩⟩
      · rw [HE.out]; exact ⟨an, cn, by rw [HLN.out], HTN.out.below hb6 (Nat.le_refl _)⟩
      · rw [HE.out]; exact ⟨an, cn, by rw [HLN.out], HTN.out.below hb6 (Nat.le_refl _)⟩
    by_cases h2 : o.kd = 2
    · have HE := Lib.hid (show r = (o.all, o.all) by rw [HR.out, if_neg (by simp), if_neg h0, if_neg h1, if_pos h2])
      rw [h2] at H3 ⊢
      clear h0 h1 h2 HR
      go_enter Try.func24, Try.ntmps24
      go_upto_region 3 with (fail)
      refine wp_name (fun W => Three w W #[.slice an ln cn, .slice af lf cf] #[.int .i64 2, .string o.s, .slice ad len cap]) H3.out ?_
      clear H3
      rintro w3 h3
      have H3 := Lib.hid h3
      have o0 : w3.cell? ⟨w.heap.size + 1, 0, none⟩ = some (.int .i64 2) := h3.o.cell 0
      have o2 : w3.cell? ⟨w.heap.size + 1, 2, none⟩ = some (.slice ad len cap) := h3.o.cell 2
      have s0 : w3.cell? ⟨w.heap.size, 0, none⟩ = some (.slice an ln cn) := h3.s.cell 0
      have s1 : w3.cell? ⟨w.heap.size, 1, none⟩ = some (.slice af lf cf) := h3.s.cell 1
      have r0 : w3.cell? ⟨w.heap.size + 1 + 1, 0, none⟩ = some (.slice none 0 0) := h3.r.cell 0
      have r1 : w3.cell? ⟨w.heap.size + 1 + 1, 1, none⟩ = some (.slice none 0 0) := h3.r.cell 1
      have fs0 := h3.s.frozen 0
      have fs1 := h3.s.frozen 1
      have fr0 := h3.r.frozen 0
      have fr1 := h3.r.frozen 1
      have hl0 : w.heap.size < w3.heap.size := h3.s.lt
      have hl1 : w.heap.size + 1 < w3.heap.size := h3.o.lt
      have hl2 : w.heap.size + 1 + 1 < w3.heap.size := h3.r.lt
      clear h3
      go_wp2_with fail
      have hb6 := ((((H3.out.b.setCell (p := ⟨w.heap.size, 0, none⟩) (by show _ ≤ w.heap.size; omega) (.slice ad len cap)).setCell (p := ⟨w.heap.size, 1, none⟩) (by show _ ≤ w.heap.size; omega) (.slice ad len cap)).setCell (p := ⟨w.heap.size + 1 + 1, 0, none⟩) (by show _ ≤ w.heap.size + 1 + 1; omega) (.slice ad len cap)).setCell (p := ⟨w.heap.size + 1 + 1, 1, none⟩) (by show _ ≤ w.heap.size + 1 + 1; omega) (.slice ad len cap))
      have hx6 := ((((H3.out.r.set_other (p := ⟨w.heap.size, 0, none⟩) (by show w.heap.size + 1 + 1 ≠ w.heap.size; omega) (.slice ad len cap)).set_other (p := ⟨w.heap.size, 1, none⟩) (by show w.heap.size + 1 + 1 ≠ w.heap.size; omega) (.slice ad len cap)).set 0 (.slice ad len cap)).set 1 (.slice ad len cap))
      refine ret_c rfl rfl rfl (Box.load hx6 Try.underlying56 rfl (by kernel_rfl)) ⟨.slice ad len cap, .slice ad len cap, rfl, ?_, ?_, hb6, fun P p1 p2 p3 p4 => ⟨p3, p3⟩⟩
      · rw [HE.out]; exact ⟨ad, cap, by rw [HLEN.out], HTX.out.below hb6 (Nat.le_refl _)⟩
      · rw [HE.out]; exact ⟨ad, cap, by rw [HLEN.out], HTX.out.below hb6 (Nat.le_refl _)⟩
    · have HE := Lib.hid (show r = s by rw [HR.out, if_neg (by simp), if_neg h0, if_neg h1, if_neg h2])
      have q0 : (o.kd == 0) = false := by simpa using h0
      have q1 : (o.kd == 1) = false := by simpa using h1
      have q2 : (o.kd == 2) = false := by simpa using h2
      clear h0 h1 h2 HR
      go_enter Try.func24, Try.ntmps24
      go_upto_region 3 with (fail)
      refine wp_name (fun W => Three w W #[.slice an ln cn, .slice af lf cf] #[.int .i64 o.kd, .string o.s, .slice ad len cap]) H3.out ?_
      clear H3
      rintro w3 h3
      have H3 := Lib.hid h3
      have o0 : w3.cell? ⟨w.heap.size + 1, 0, none⟩ = some (.int .i64 o.kd) := h3.o.cell 0
      have o2 : w3.cell? ⟨w.heap.size + 1, 2, none⟩ = some (.slice ad len cap) := h3.o.cell 2
      have s0 : w3.cell? ⟨w.heap.size, 0, none⟩ = some (.slice an ln cn) := h3.s.cell 0
      have s1 : w3.cell? ⟨w.heap.size, 1, none⟩ = some (.slice af lf cf) := h3.s.cell 1
      have r0 : w3.cell? ⟨w.heap.size + 1 + 1, 0, none⟩ = some (.slice none 0 0) := h3.r.cell 0
      have r1 : w3.cell? ⟨w.heap.size + 1 + 1, 1, none⟩ = some (.slice none 0 0) := h3.r.cell 1
      have fs0 := h3.s.frozen 0
      have fs1 := h3.s.frozen 1
      have fr0 := h3.r.frozen 0
      have fr1 := h3.r.frozen 1
      have hl0 : w.heap.size < w3.heap.size := h3.s.lt
      have hl1 : w.heap.size + 1 < w3.heap.size := h3.o.lt
      have hl2 : w.heap.size + 1 + 1 < w3.heap.size := h3.r.lt
      clear h3
      go_wp2_with fail
      have hb6 := ((H3.out.b.setCell (p := ⟨w.heap.size + 1 + 1, 0, none⟩) (by show _ ≤ w.heap.size + 1 + 1; omega) (.slice an ln cn)).setCell (p := ⟨w.heap.size + 1 + 1, 1, none⟩) (by show _ ≤ w.heap.size + 1 + 1; omega) (.slice af lf cf))
      have hx6 := ((H3.out.r.set 0 (.slice an ln cn)).set 1 (.slice af lf cf))
      refine ret_c rfl rfl rfl (Box.load hx6 Try.underlying56 rfl (by kernel_rfl)) ⟨.slice an ln cn, .slice af lf cf, rfl, ?_, ?_, hb6, fun P p1 p2 p3 p4 => ⟨p1, p2⟩⟩
      · rw [HE.out]; exact ⟨an, cn, by rw [HLN.out], HTN.out.below hb6 (Nat.le_refl _)⟩
      · rw [HE.out]; exact ⟨af, cf, by rw [HLF.out], HTF.out.below hb6 (Nat.le_refl _)⟩
/-- what would last. -/
theorem next_any (o : Op5) (ad : Option Addr) (cap : Nat) (vn vf : Value) (s : List ByteArray × List ByteArray) (hn : Tv w vn s.1) (hf : Tv w vf s.2) (hx : TxIn w ad cap o.all) :
    Calls Try.prog 31 #[.agg #[vn, vf], ov o ad cap] w fun e w' => ∃ v, e = .returned v ∧ Tv w' v (nextN o s) ∧ Below w.heap.size w w' := by
  obtain ⟨an, cn, rfl, hTn⟩ := hn
  obtain ⟨af, cf, rfl, hTf⟩ := hf
  obtain ⟨ln, hln⟩ : ∃ ln, ln = s.1.length := ⟨_, rfl⟩
  obtain ⟨lf, hlf⟩ : ∃ lf, lf = s.2.length := ⟨_, rfl⟩
  obtain ⟨len, hlen⟩ : ∃ len, len = o.all.length := ⟨_, rfl⟩
  have hov : ov o ad cap = .agg #[.int .i64 o.kd, .string o.s, .slice ad len cap] := by rw [hlen]
  rw [hov, ← hln, ← hlf]
  have hb6 : Below w.heap.size w ((w.alloc (.cells #[.slice an ln cn, .slice af lf cf] 56)).alloc (.cells #[.int .i64 o.kd, .string o.s, .slice ad len cap] 49)) := ((Below.refl w.heap.size w).alloc (Nat.le_refl _) _).alloc (by simp) _
  have HN := Lib.hid (show Tv ((w.alloc (.cells #[.slice an ln cn, .slice af lf cf] 56)).alloc (.cells #[.int .i64 o.kd, .string o.s, .slice ad len cap] 49)) (.slice an ln cn) s.1 from ⟨an, cn, by rw [hln], hTn.below hb6 (Nat.le_refl _)⟩)
  have HF := Lib.hid (show Tv ((w.alloc (.cells #[.slice an ln cn, .slice af lf cf] 56)).alloc (.cells #[.int .i64 o.kd, .string o.s, .slice ad len cap] 49)) (.slice af lf cf) s.2 from ⟨af, cf, by rw [hlf], hTf.below hb6 (Nat.le_refl _)⟩)
  have HX := Lib.hid (show Tv ((w.alloc (.cells #[.slice an ln cn, .slice af lf cf] 56)).alloc (.cells #[.int .i64 o.kd, .string o.s, .slice ad len cap] 49)) (.slice ad len cap) o.all from ⟨ad, cap, by rw [hlen], hx.below hb6 (Nat.le_refl _)⟩)
  have HB := Lib.hid hb6
  clear hln hlf hlen hov hTn hTf hx hb6
  by_cases h1 : o.kd = 1
  · have HE := Lib.hid (show nextN o s = s.1 by unfold nextN; rw [if_pos h1])
    rw [h1] at HN HF HX HB ⊢
    clear h1
    go_enter Try.func31, Try.ntmps31
    go_wp2_with fail
    go_ret
    exact ⟨_, rfl, by rw [HE.out]; exact HN.out, HB.out⟩
  by_cases h2 : o.kd = 2
  · have HE := Lib.hid (show nextN o s = o.all by unfold nextN; rw [if_neg h1, if_pos h2])
    rw [h2] at HN HF HX HB ⊢
    clear h1 h2
    go_enter Try.func31, Try.ntmps31
    go_wp2_with fail
    go_ret
    exact ⟨_, rfl, by rw [HE.out]; exact HX.out, HB.out⟩
  · have HE := Lib.hid (show nextN o s = s.2 by unfold nextN; rw [if_neg h1, if_neg h2])
    have q1 : (o.kd == 1) = false := by simpa using h1
    have q2 : (o.kd == 2) = false := by simpa using h2
    clear h1 h2
    go_enter Try.func31, Try.ntmps31
    go_wp2_with fail
    go_ret
    exact ⟨_, rfl, by rw [HE.out]; exact HF.out, HB.out⟩
end Go.Proofs.Ytdiboicllolcnaa
