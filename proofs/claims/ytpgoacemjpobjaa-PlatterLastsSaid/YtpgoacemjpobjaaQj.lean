/- plays: calls on a disk, and on the document's. Conditions: the script lies in memory. -/
import Derived.Test.YtpgoacemjpobjaaQi
namespace Go.Proofs.Ytpgoacemjpobjaa
open Go Go.RowKit
set_option linter.unusedVariables false
set_option linter.unusedSimpArgs false
variable {w w' : World} {base n : Nat} {V V' : Vs} {D : Dk}

theorem Dsk.not28 (h : Dsk w base n V D) {b : Nat} {cs : Array Value} (hb : Box w b 28 cs) : ¬ Of n V b := by
  rintro (rfl | hv | hv | hv)
  · exact box_ne h.box hb (by decide) rfl
  · exact own_box_ne h.rn hb (by decide) hv
  · exact own_box_ne h.rf hb (by decide) hv
  · exact own_box_ne h.rw hb (by decide) hv
/-- four cells of a box. -/
def set4 (w : World) (b : Nat) (x y z q : Value) : World := (((w.setCell ⟨b, 0, none⟩ x).setCell ⟨b, 1, none⟩ y).setCell ⟨b, 2, none⟩ z).setCell ⟨b, 3, none⟩ q
theorem set4_touch (w : World) (b : Nat) (x y z q : Value) : Touch (· = b) w (set4 w b x y z q) := ((((Touch.refl _ _).set1 0 _).set1 1 _).set1 2 _).set1 3 _
theorem set4_box {b : Nat} {x y z q x0 y0 z0 q0 : Value} (h : Box w b 28 #[x0, y0, z0, q0]) : Box (set4 w b x y z q) b 28 #[x, y, z, q] := (((h.set 0 x).set 1 y).set 2 z).set 3 q
theorem below_touch1 {B b : Nat} {w0 : World} (h : Below B w0 w) (ht : Touch (· = b) w w') (hb : B ≤ b) (hB : B ≤ w0.heap.size) : Below B w0 w' := Below.touch h ht hB (fun k hk => by omega)
def Played (w : World) (D : Dk) (e : Ending) (w' : World) : Prop :=
  ∃ n V af aw cf cw, e = .returned (.tuple #[.pointer (some ⟨n, 0, none⟩), rdv af aw cf cw D, .bool true]) ∧ Dsk w' w.heap.size n V D ∧ RAt w' (Of n V) af aw cf cw D ∧ Below w.heap.size w w'
theorem ret_plays {fn : Func} {R : Ending → World → Prop} {act : Act} {w : World} {t u s b : Nat} {p q' x y z q : Value} (h : fn.results = #[.tmp t, .cell u 28, .tmp s]) (hd : act.defers = []) (ht : act.tmps.getD t undef = p) (hu : act.tmps.getD u undef = .pointer (some ⟨b, 0, none⟩)) (hs : act.tmps.getD s undef = q')
    (hb : Box w b 28 #[x, y, z, q]) (hR : R (.returned (.tuple #[p, .agg #[x, y, z, q], q'])) w) : bodyPost Try.prog fn R .ret act w := by
  have c0 : w.cell? ⟨b, 0, none⟩ = some x := hb.cell 0
  have c1 : w.cell? ⟨b, 1, none⟩ = some y := hb.cell 1
  have c2 : w.cell? ⟨b, 2, none⟩ = some z := hb.cell 2
  have c3 : w.cell? ⟨b, 3, none⟩ = some q := hb.cell 3
  refine bodyPost_ret (v := .tuple #[p, .agg #[x, y, z, q], q']) ?_ hd hR
  rw [Array.getD_eq_getD_getElem?] at ht hu hs
  simp [results, h, ht, hu, hs, go_sem, c0, c1, c2, c3]
set_option maxHeartbeats 4000000 in
set_option maxRecDepth 100000 in
theorem plays_any (m : Int) (hm : m ≤ 60) (pa : Option Addr) (len cap : Nat) (xs : List In4) (hO : OpsAt w pa len xs) (hlen : len ≤ 1000) :
    Calls Try.prog 10 #[.int .i64 m, .slice pa len cap] w (Played w (playD xs (newD m))) := by
  obtain ⟨M0, hM0⟩ : ∃ M, M = newD m := ⟨_, rfl⟩
  rw [← hM0]
  have HG0 : Hid (Good M0) := by rw [hM0]; exact good_new m
  have HW0 : Hid (M0.wait.length = 0) := by rw [hM0]; exact (show (newD m).wait.length = 0 from rfl)
  have C1 := Lib.hid (fun w => new_any (w := w) m)
  have C2 := Lib.hid (fun w => rnew_any m hm w)
  simp only [← hM0] at C1 C2
  unfold rdv at C2
  have HO := Lib.hid hO
  have HL := Lib.hid hO.len
  have B0 := Lib.hid ((Below.refl w.heap.size w).alloc (Nat.le_refl _) (.cells #[.slice none 0 0, .slice none 0 0, .int .i64 0, .bool false] 28))
  have HX := Lib.hid (Box.new w 28 #[.slice none 0 0, .slice none 0 0, .int .i64 0, .bool false])
  clear hM0 hO hm
  go_enter Try.func10, Try.ntmps10
  go_wp2_with fail
  generalize w.alloc (.cells #[.slice none 0 0, .slice none 0 0, .int .i64 0, .bool false] 28) = w0 at B0 HX ⊢
  refine (C1.out w0).mono ?_
  rintro e w1 ⟨n, V, rfl, hD1, b1⟩
  have hlt1 := hD1.of_lt
  have HD1 := Lib.hid (hD1.rebase B0.out.size)
  have HX1 := Lib.hid (HX.out.below b1 HX.out.lt)
  have B1 := Lib.hid (B0.out.trans (b1.mono B0.out.size))
  clear C1 b1 hD1
  go_wp2_with fail
  refine (C2.out w1).mono ?_
  rintro e w2 ⟨af, cf, rfl, hr2, b2⟩
  have HD2 := Lib.hid (HD1.out.bel b2)
  have HX2 := Lib.hid (HX1.out.below b2 HX1.out.lt)
  have B2 := Lib.hid (B1.out.trans (b2.mono B1.out.size))
  have HR2 : Hid (RAt w2 (fun i => Of n V i ∨ i = w.heap.size ∨ i = w2.heap.size) af none cf 0 M0) := hr2.mono (fun k hk hh => by
    have hl1 := HX1.out.lt
    rcases hh with h | h | h
    · exact hlt1 k h
    · omega
    · omega)
  clear C2 b2 hr2 hlt1
  go_wp2_with fail
  have HD3 := Lib.hid (HD2.out.alloc (.cells #[.slice af M0.firm.length cf, .slice none M0.wait.length 0, .int .i64 M0.armed, .bool M0.dead] 28))
  have HX3 := Lib.hid (HX2.out.alloc (.cells #[.slice af M0.firm.length cf, .slice none M0.wait.length 0, .int .i64 M0.armed, .bool M0.dead] 28))
  have HR3 := Lib.hid (HR2.out.bel ((Below.refl _ _).alloc (Nat.le_refl _) (.cells #[.slice af M0.firm.length cf, .slice none M0.wait.length 0, .int .i64 M0.armed, .bool M0.dead] 28)))
  have HY3 := Lib.hid (Box.new w2 28 #[.slice af M0.firm.length cf, .slice none M0.wait.length 0, .int .i64 M0.armed, .bool M0.dead])
  have B3 := Lib.hid (B2.out.alloc B2.out.size (.cells #[.slice af M0.firm.length cf, .slice none M0.wait.length 0, .int .i64 M0.armed, .bool M0.dead] 28))
  have HLB := Lib.hid (show w.heap.size < w2.heap.size from HX2.out.lt)
  generalize w2.alloc (.cells #[.slice af M0.firm.length cf, .slice none M0.wait.length 0, .int .i64 M0.armed, .bool M0.dead] 28) = w3 at HD3 HX3 HR3 HY3 B3 ⊢
  generalize w2.heap.size = b8 at HR3 HY3 HLB ⊢
  go_loopw [7, 24] (fun dv iv wr => ∃ (k n : Nat) (V : Vs) (M : Dk) (af aw : Option Addr) (cf cw : Nat), k ≤ len ∧ dv = .pointer (some ⟨n, 0, none⟩) ∧ iv = .int .i64 k ∧ M = playD (xs.take k) M0 ∧ Dsk wr w.heap.size n V M ∧ RAt wr (fun i => Of n V i ∨ i = w.heap.size ∨ i = b8) af aw cf cw M ∧
      Box wr w.heap.size 28 #[.slice none 0 0, .slice none 0 0, .int .i64 0, .bool false] ∧ Box wr b8 28 #[.slice af M.firm.length cf, .slice aw M.wait.length cw, .int .i64 M.armed, .bool M.dead] ∧ Below w.heap.size w wr) (fun _ iv _ => len - (intOf iv).toNat)
  case atStart => exact ⟨0, n, V, M0, af, none, cf, 0, Nat.zero_le _, rfl, rfl, rfl, HD3.out, HR3.out, HX3.out, HY3.out, B3.out⟩
  case round =>
    clear HD1 HX1 B1 HD2 HX2 B2 HR2 HD3 HX3 HR3 HY3 B3 B0 HX
    have hlb := HLB.out
    obtain ⟨k, n, V, M, af, aw, cf, cw, hk, rfl, rfl, hM, hD, hR, hX, hY, hB⟩ := hrel
    have HGM : Hid (Good M) := by
      rw [hM]; exact good_play _ (fun x hx => by
        have hx' := List.mem_of_mem_take hx
        exact (HO.out.2 x hx').2) HG0.out
    have HWM : Hid (M.wait.length ≤ 1000) := by
      have := wait_play (D := M0) (xs.take k)
      rw [← hM, HW0.out, List.length_take] at this
      show M.wait.length ≤ 1000
      omega
    have HM := Lib.hid hM
    have HD := Lib.hid hD
    have HR := Lib.hid hR
    have HX := Lib.hid hX
    have HY := Lib.hid hY
    have HB := Lib.hid hB
    have y0 : wr.cell? ⟨b8, 0, none⟩ = some (.slice af M.firm.length cf) := hY.cell 0
    have y1 : wr.cell? ⟨b8, 1, none⟩ = some (.slice aw M.wait.length cw) := hY.cell 1
    have y2 : wr.cell? ⟨b8, 2, none⟩ = some (.int .i64 M.armed) := hY.cell 2
    have y3 : wr.cell? ⟨b8, 3, none⟩ = some (.bool M.dead) := hY.cell 3
    have hyl := hY.lt
    clear hM hD hR hX hY hB
    by_cases hlt : k < len
    · obtain ⟨bb, off, x, rfl, hx, hbw, hBx, hfx, d0, d1, d2, d3⟩ := HO.out.get k hlt
      rw [← HB.out.cell (p := ⟨bb, _, none⟩) hbw] at d0 d1 d2 d3
      have hbr : bb < wr.heap.size := Nat.lt_of_lt_of_le hbw HB.out.size
      have HBX := Lib.hid (hBx.bel HB.out)
      have HBXW := Lib.hid hBx
      have HN := Lib.hid (playD_next hx M0)
      have HFX := Lib.hid hfx
      obtain ⟨r, hr⟩ : ∃ r, r = stepA x.o M := ⟨_, rfl⟩
      have HRR := Lib.hid hr
      obtain ⟨ans, hans⟩ : ∃ ans : ByteArray, ans = ⟨r.2.1.toArray⟩ := ⟨_, rfl⟩
      have bA := (Below.refl wr.heap.size wr).alloc (Nat.le_refl _) (.cells #[.int .i64 x.o.kd, .int .i64 x.o.n, .int .i64 x.o.tear, .slice x.ad x.o.b.length x.cap] 46)
      have C1 := Lib.hid (rdo_any (ad := x.ad) (cap := x.cap) x.o (HR.out.bel bA) HGM.out (by have := HWM.out; omega) (HBX.out.bel bA))
      have C2 := Lib.hid (fun (w4 : World) (hD : Dsk w4 w.heap.size n V M) (hb : w.heap.size ≤ w4.heap.size) (hB : Bys w4 x.ad x.o.b.length x.o.b) => does_any (ad := x.ad) (cap := x.cap) x.o hD hb HGM.out (by have := HWM.out; omega) hB)
      rw [← hr] at C1
      simp only [← hr] at C2
      unfold rdv ov Done rdv st at C1
      unfold ov Dids st at C2
      rw [← hans] at C1
      simp only [← hans] at C2
      have HBA := Lib.hid bA
      have HXA := Lib.hid (Box.new wr 46 #[.int .i64 x.o.kd, .int .i64 x.o.n, .int .i64 x.o.tear, .slice x.ad x.o.b.length x.cap])
      clear hx hBx hfx hr hans bA
      go_wp2_with fail
      refine C1.out.mono ?_
      rintro e wB ⟨af2, aw2, cf2, cw2, rfl, hr2, b2⟩
      have HBB := Lib.hid (HBA.out.trans (b2.mono HBA.out.size))
      have HRB := Lib.hid hr2
      have HXB := Lib.hid (HXA.out.below b2 HXA.out.lt)
      have HSA := Lib.hid (show wr.heap.size < wB.heap.size from HXB.out.lt)
      have HYB := Lib.hid (HY.out.below HBB.out hyl)
      have hyb := HYB.out.lt
      clear b2 hr2 C1 y0 y1 y2 y3 d0 d1 d2 d3 HBA HXA
      have y0 : wB.cell? ⟨b8, 0, none⟩ = some (.slice af M.firm.length cf) := HYB.out.cell 0
      have y1 : wB.cell? ⟨b8, 1, none⟩ = some (.slice aw M.wait.length cw) := HYB.out.cell 1
      have y2 : wB.cell? ⟨b8, 2, none⟩ = some (.int .i64 M.armed) := HYB.out.cell 2
      have y3 : wB.cell? ⟨b8, 3, none⟩ = some (.bool M.dead) := HYB.out.cell 3
      have f0 := HYB.out.frozen 0
      have f1 := HYB.out.frozen 1
      have f2 := HYB.out.frozen 2
      have f3 := HYB.out.frozen 3
      have e0 : wB.cell? ⟨wr.heap.size, 0, none⟩ = some (.int .i64 x.o.kd) := HXB.out.cell 0
      have e1 : wB.cell? ⟨wr.heap.size, 1, none⟩ = some (.int .i64 x.o.n) := HXB.out.cell 1
      have e2 : wB.cell? ⟨wr.heap.size, 2, none⟩ = some (.int .i64 x.o.tear) := HXB.out.cell 2
      have e3 : wB.cell? ⟨wr.heap.size, 3, none⟩ = some (.slice x.ad x.o.b.length x.cap) := HXB.out.cell 3
      have hn8 : ¬ wr.heap.size = b8 := by omega
      have hn9 : ¬ b8 = wr.heap.size := by omega
      have hsb := HSA.out
      go_wp2_with fail
      have hST : set4 wB b8 (.slice af2 r.1.firm.length cf2) (.slice aw2 r.1.wait.length cw2) (.int .i64 r.1.armed) (.bool r.1.dead) = (((wB.setCell ⟨b8, 0, none⟩ (.slice af2 r.1.firm.length cf2)).setCell ⟨b8, 1, none⟩ (.slice aw2 r.1.wait.length cw2)).setCell ⟨b8, 2, none⟩ (.int .i64 r.1.armed)).setCell ⟨b8, 3, none⟩ (.bool r.1.dead) := rfl
      rw [← hST]
      have HTS := Lib.hid (set4_touch wB b8 (.slice af2 r.1.firm.length cf2) (.slice aw2 r.1.wait.length cw2) (.int .i64 r.1.armed) (.bool r.1.dead))
      have HYS := Lib.hid (set4_box (x := .slice af2 r.1.firm.length cf2) (y := .slice aw2 r.1.wait.length cw2) (z := .int .i64 r.1.armed) (q := .bool r.1.dead) HYB.out)
      have HSZ : Hid (wB.heap.size ≤ (set4 wB b8 (.slice af2 r.1.firm.length cf2) (.slice aw2 r.1.wait.length cw2) (.int .i64 r.1.armed) (.bool r.1.dead)).heap.size) := HTS.out.size
      have hs4 : (set4 wB b8 (.slice af2 r.1.firm.length cf2) (.slice aw2 r.1.wait.length cw2) (.int .i64 r.1.armed) (.bool r.1.dead)).heap.size = wB.heap.size := by unfold set4; simp [World.setCell]
      generalize set4 wB b8 (.slice af2 r.1.firm.length cf2) (.slice aw2 r.1.wait.length cw2) (.int .i64 r.1.armed) (.bool r.1.dead) = wC at HTS HYS HSZ hs4 ⊢
      clear hST y0 y1 y2 y3 f0 f1 f2 f3 e0 e1 e2 e3
      have HBC : Hid (Below w.heap.size w wC) := Below.touch (HB.out.trans (HBB.out.mono HB.out.size)) HTS.out (Nat.le_refl _) (fun k hk => by omega)
      have HXC := Lib.hid (HXB.out.touch HTS.out hn8)
      have HDC : Hid (Dsk wC w.heap.size n V M) := (HD.out.bel HBB.out).touch HTS.out (fun k hk ho => HD.out.not28 HY.out (hk ▸ ho))
      have HX0 : Hid (Box wC w.heap.size 28 #[.slice none 0 0, .slice none 0 0, .int .i64 0, .bool false]) := (HX.out.below HBB.out HX.out.lt).touch HTS.out (by omega)
      have HRC : Hid (RAt wC (fun i => (Of n V i ∨ i = w.heap.size ∨ i = b8) ∧ i < wr.heap.size + 1) af2 aw2 cf2 cw2 r.1) := by
        have h1 : RAt wB (fun i => (Of n V i ∨ i = w.heap.size ∨ i = b8) ∧ i < wr.heap.size + 1) af2 aw2 cf2 cw2 r.1 := HRB.out.mono (fun k _ h => ⟨h.1, by simpa using h.2⟩)
        exact h1.stays HSZ.out (fun k hk hb => HTS.out.block k hk (fun e => hb ⟨.inr (.inr e), by omega⟩))
      have B4 := (((Below.refl _ wC).alloc (Nat.le_refl _) (.cells #[.slice af2 r.1.firm.length cf2, .slice aw2 r.1.wait.length cw2, .int .i64 r.1.armed, .bool r.1.dead] 28)).alloc (by simp) (.cells #[.string ans, .int .i64 r.2.2] 48))
      have HD4 := Lib.hid (HDC.out.bel B4)
      have HX4 := Lib.hid (HX0.out.below B4 HX0.out.lt)
      have HY4 := Lib.hid (HYS.out.below B4 HYS.out.lt)
      have HXO4 := Lib.hid (HXC.out.below B4 HXC.out.lt)
      have HR4 := Lib.hid (HRC.out.bel B4)
      have HB4 := Lib.hid (HBC.out.trans (B4.mono HBC.out.size))
      have HA4 := Lib.hid (show Box ((wC.alloc (.cells #[.slice af2 r.1.firm.length cf2, .slice aw2 r.1.wait.length cw2, .int .i64 r.1.armed, .bool r.1.dead] 28)).alloc (.cells #[.string ans, .int .i64 r.2.2] 48)) (wB.heap.size + 1) 48 #[.string ans, .int .i64 r.2.2] by have := Box.new (wC.alloc (.cells #[.slice af2 r.1.firm.length cf2, .slice aw2 r.1.wait.length cw2, .int .i64 r.1.armed, .bool r.1.dead] 28)) 48 #[.string ans, .int .i64 r.2.2]; simpa [hs4] using this)
      have HS4 := Lib.hid (show wr.heap.size + 1 ≤ ((wC.alloc (.cells #[.slice af2 r.1.firm.length cf2, .slice aw2 r.1.wait.length cw2, .int .i64 r.1.armed, .bool r.1.dead] 28)).alloc (.cells #[.string ans, .int .i64 r.2.2] 48)).heap.size by simp; omega)
      generalize (wC.alloc (.cells #[.slice af2 r.1.firm.length cf2, .slice aw2 r.1.wait.length cw2, .int .i64 r.1.armed, .bool r.1.dead] 28)).alloc (.cells #[.string ans, .int .i64 r.2.2] 48) = w4 at HD4 HX4 HY4 HXO4 HR4 HB4 HA4 HS4 ⊢
      clear HTS HYS HSZ hs4 HBC HXC HDC HX0 HRC B4 HBB HRB HXB HYB hyb
      refine (C2.out w4 HD4.out HB4.out.size (HBXW.out.bel HB4.out)).mono ?_
      rintro e w5 ⟨n', V', rfl, hD5, hM5⟩
      have HD5 := Lib.hid hD5
      have HM5 := Lib.hid hM5
      have hof : ∀ k, Of n V k → k < wr.heap.size := HD.out.of_lt
      have HN28 : Hid (¬ Of n V b8 ∧ ¬ Of n V w.heap.size) := ⟨HD.out.not28 HY.out, HD.out.not28 HX.out⟩
      have HX5 := Lib.hid (HX4.out.touch hM5.touch HN28.out.2)
      have HY5 := Lib.hid (HY4.out.touch hM5.touch HN28.out.1)
      have HA5 := Lib.hid (HA4.out.touch hM5.touch (fun h => by have := hof _ h; omega))
      have HB5 := Lib.hid (Below.touch HB4.out hM5.touch (Nat.le_refl _) (fun k hk => HD.out.of_ge k hk))
      have HR5 : Hid (RAt w5 (fun i => Of n' V' i ∨ i = w.heap.size ∨ i = b8) af2 aw2 cf2 cw2 r.1) := by
        have h1 : RAt w4 (fun i => Of n V i ∨ i = w.heap.size ∨ i = b8) af2 aw2 cf2 cw2 r.1 := HR4.out.mono (fun k _ h => ⟨h, by
          rcases h with h | h | h
          · have := hof k h; omega
          · have := HX.out.lt; omega
          · omega⟩)
        have h2 := h1.stays hM5.touch.size (fun k hk hb => hM5.touch.block k hk (fun ho => hb (.inl ho)))
        have h3 := h1.mono (bad' := fun i => (Of n V i ∨ i = w.heap.size ∨ i = b8) ∨ w4.heap.size ≤ i) (fun k hk h => h.elim id (fun h => by omega))
        have h4 := h3.stays hM5.touch.size (fun k hk hb => hM5.touch.block k hk (fun ho => hb (.inl (.inl ho))))
        exact h4.mono (fun k _ h => by
          rcases h with h | h | h
          · rcases hM5.lies k h with h5 | h5
            · exact .inl (.inl h5)
            · exact .inr h5
          · exact .inl (.inr (.inl h))
          · exact .inl (.inr (.inr h)))
      clear hD5 hM5 C2 HD4 HX4 HY4 HXO4 HR4 HB4 HA4 hof
      have a0 : w5.cell? ⟨wB.heap.size + 1, 0, none⟩ = some (.string ans) := HA5.out.cell 0
      have a1 : w5.cell? ⟨wB.heap.size + 1, 1, none⟩ = some (.int .i64 r.2.2) := HA5.out.cell 1
      go_wp2_with fail
      have b6 := (Below.refl _ w5).alloc (Nat.le_refl _) (.cells #[.string ans, .int .i64 r.2.2] 48)
      have HD6 := Lib.hid (HD5.out.bel b6)
      have HX6 := Lib.hid (HX5.out.below b6 HX5.out.lt)
      have HY6 := Lib.hid (HY5.out.below b6 HY5.out.lt)
      have HA6 := Lib.hid (HA5.out.below b6 HA5.out.lt)
      have HR6 := Lib.hid (HR5.out.bel b6)
      have HB6 := Lib.hid (HB5.out.trans (b6.mono HB5.out.size))
      have HZ6 := Lib.hid (Box.new w5 48 #[.string ans, .int .i64 r.2.2])
      have HGR : Hid (Good r.1) := by
        show Good r.1
        rw [HRR.out]; exact good_step x.o HFX.out HGM.out
      have HWR : Hid (r.1.wait.length ≤ 1000000 ∧ r.1.now.length ≤ 65536 ∧ r.1.firm.length = r.1.now.length) := by
        have h1 := wait_step (D := M) x.o
        have h2 := HWM.out
        rw [← HRR.out] at h1
        exact ⟨by omega, HGR.out.many, HGR.out.same⟩
      have hwr := HWR.out
      clear HD5 HX5 HY5 HA5 HR5 HB5 a0 a1 b6
      generalize hw6 : w5.alloc (.cells #[.string ans, .int .i64 r.2.2] 48) = w6 at HD6 HX6 HY6 HA6 HR6 HB6 HZ6 ⊢
      clear hw6
      refine wp_region_below (B := w6.heap.size) (w0 := w6) (by kernel_rfl) (by kernel_rfl) (Below.refl _ _) ?_
      go_big_quiet_want; go_big_quiet_op; go_big_quiet_on
      go_big_quiet_want; apply quiet_value (v := .bool false); (· (intro w hw; go_simp; try rfl)); simp only [Act.put, List.setIfInBounds_toArray, List.set_cons_succ, List.set_cons_zero]; go_big_quiet_on
      go_big_quiet_want; go_big_quiet_op; go_big_quiet_on
      go_big_quiet_want; apply quiet_value; (· (intro w hw; have hz := HZ6.out.below hw HZ6.out.lt; have z0 : w.cell? ⟨w5.heap.size, 0, none⟩ = some (.string ans) := hz.cell 0; have z1 : w.cell? ⟨w5.heap.size, 1, none⟩ = some (.int .i64 r.2.2) := hz.cell 1; go_simp; try rfl)); simp only [Act.put, List.setIfInBounds_toArray, List.set_cons_succ, List.set_cons_zero]; go_big_quiet_on
      go_big_quiet_want; apply quiet_value; (· (intro w hw; have ha := HA6.out.below hw HA6.out.lt; have a0 : w.cell? ⟨wB.heap.size + 1, 0, none⟩ = some (.string ans) := ha.cell 0; have a1 : w.cell? ⟨wB.heap.size + 1, 1, none⟩ = some (.int .i64 r.2.2) := ha.cell 1; go_simp; try rfl)); simp only [Act.put, List.setIfInBounds_toArray, List.set_cons_succ, List.set_cons_zero]; go_big_quiet_on
      go_big_quiet_want; apply quiet_value (v := .bool false); (· (intro w hw; go_simp; try rfl)); simp only [Act.put, List.setIfInBounds_toArray, List.set_cons_succ, List.set_cons_zero]; go_big_quiet_on
      go_big_quiet_want; apply quiet_value; (· (intro w hw; go_simp; try rfl)); simp only [Act.put, List.setIfInBounds_toArray, List.set_cons_succ, List.set_cons_zero]; go_big_quiet_on
      go_big_quiet_want; go_big_quiet_op; go_big_quiet_on
      go_big_quiet_want; go_big_quiet_op; go_big_quiet_on
      go_big_quiet_want; apply quiet_call (f := 12); (· (intro w hw; go_simp; try rfl)); (· (intro w hw; exact in_class (dead_any (HD6.out.bel hw)) hw)); simp only [Act.put, List.setIfInBounds_toArray, List.set_cons_succ, List.set_cons_zero]; go_big_quiet_on
      go_big_quiet_want; apply quiet_value; (· (intro w hw; have hy := HY6.out.below hw HY6.out.lt; have y0 : w.cell? ⟨b8, 0, none⟩ = some (.slice af2 r.1.firm.length cf2) := hy.cell 0; have y1 : w.cell? ⟨b8, 1, none⟩ = some (.slice aw2 r.1.wait.length cw2) := hy.cell 1; have y3 : w.cell? ⟨b8, 3, none⟩ = some (.bool r.1.dead) := hy.cell 3; go_simp; try rfl)); simp only [Act.put, List.setIfInBounds_toArray, List.set_cons_succ, List.set_cons_zero]; go_big_quiet_on
      go_big_quiet_want; apply quiet_value; (· (intro w hw; have hy := HY6.out.below hw HY6.out.lt; have y0 : w.cell? ⟨b8, 0, none⟩ = some (.slice af2 r.1.firm.length cf2) := hy.cell 0; have y1 : w.cell? ⟨b8, 1, none⟩ = some (.slice aw2 r.1.wait.length cw2) := hy.cell 1; have y3 : w.cell? ⟨b8, 3, none⟩ = some (.bool r.1.dead) := hy.cell 3; go_simp; try rfl)); simp only [Act.put, List.setIfInBounds_toArray, List.set_cons_succ, List.set_cons_zero]; go_big_quiet_on
      go_big_quiet_want; apply quiet_value (v := .bool false); (· (intro w hw; go_simp; try rfl)); simp only [Act.put, List.setIfInBounds_toArray, List.set_cons_succ, List.set_cons_zero]; go_big_quiet_on
      go_big_quiet_want; apply quiet_value; (· (intro w hw; go_simp; try rfl)); simp only [Act.put, List.setIfInBounds_toArray, List.set_cons_succ, List.set_cons_zero]; go_big_quiet_on
      go_big_quiet_want; go_big_quiet_op; go_big_quiet_on
      go_big_quiet_want; go_big_quiet_op; go_big_quiet_on
      go_big_quiet_want; apply quiet_call (f := 13); (· (intro w hw; go_simp; try rfl)); (· (intro w hw; exact in_class (pending_any (HD6.out.bel hw) HWR.out.1) hw)); simp only [Act.put, List.setIfInBounds_toArray, List.set_cons_succ, List.set_cons_zero]; go_big_quiet_on
      go_big_quiet_want; apply quiet_value; (· (intro w hw; have hy := HY6.out.below hw HY6.out.lt; have y0 : w.cell? ⟨b8, 0, none⟩ = some (.slice af2 r.1.firm.length cf2) := hy.cell 0; have y1 : w.cell? ⟨b8, 1, none⟩ = some (.slice aw2 r.1.wait.length cw2) := hy.cell 1; have y3 : w.cell? ⟨b8, 3, none⟩ = some (.bool r.1.dead) := hy.cell 3; go_simp; try rfl)); simp only [Act.put, List.setIfInBounds_toArray, List.set_cons_succ, List.set_cons_zero]; go_big_quiet_on
      go_big_quiet_want; apply quiet_value; (· (intro w hw; have hy := HY6.out.below hw HY6.out.lt; have y0 : w.cell? ⟨b8, 0, none⟩ = some (.slice af2 r.1.firm.length cf2) := hy.cell 0; have y1 : w.cell? ⟨b8, 1, none⟩ = some (.slice aw2 r.1.wait.length cw2) := hy.cell 1; have y3 : w.cell? ⟨b8, 3, none⟩ = some (.bool r.1.dead) := hy.cell 3; go_simp; try rfl)); simp only [Act.put, List.setIfInBounds_toArray, List.set_cons_succ, List.set_cons_zero]; go_big_quiet_on
      go_big_quiet_want; apply quiet_value; (· (intro w hw; go_simp; try rfl)); simp only [Act.put, List.setIfInBounds_toArray, List.set_cons_succ, List.set_cons_zero]; go_big_quiet_on
      go_big_quiet_want; apply quiet_value (v := .bool false); (· (intro w hw; go_simp; try rfl)); simp only [Act.put, List.setIfInBounds_toArray, List.set_cons_succ, List.set_cons_zero]; go_big_quiet_on
      go_big_quiet_want; apply quiet_value; (· (intro w hw; go_simp; try rfl)); simp only [Act.put, List.setIfInBounds_toArray, List.set_cons_succ, List.set_cons_zero]; go_big_quiet_on
      go_big_quiet_want; go_big_quiet_op; go_big_quiet_on
      go_big_quiet_want; go_big_quiet_op; go_big_quiet_on
      go_big_quiet_want; apply quiet_call (f := 25); (· (intro w hw; go_simp; try rfl)); (· (intro w hw; exact in_class (many_any (HD6.out.bel hw) HWR.out.2.1) hw)); simp only [Act.put, List.setIfInBounds_toArray, List.set_cons_succ, List.set_cons_zero]; go_big_quiet_on
      go_big_quiet_want; apply quiet_value; (· (intro w hw; have hy := HY6.out.below hw HY6.out.lt; have y0 : w.cell? ⟨b8, 0, none⟩ = some (.slice af2 r.1.firm.length cf2) := hy.cell 0; have y1 : w.cell? ⟨b8, 1, none⟩ = some (.slice aw2 r.1.wait.length cw2) := hy.cell 1; have y3 : w.cell? ⟨b8, 3, none⟩ = some (.bool r.1.dead) := hy.cell 3; go_simp; try rfl)); simp only [Act.put, List.setIfInBounds_toArray, List.set_cons_succ, List.set_cons_zero]; go_big_quiet_on
      go_big_quiet_want; apply quiet_value; (· (intro w hw; have hy := HY6.out.below hw HY6.out.lt; have y0 : w.cell? ⟨b8, 0, none⟩ = some (.slice af2 r.1.firm.length cf2) := hy.cell 0; have y1 : w.cell? ⟨b8, 1, none⟩ = some (.slice aw2 r.1.wait.length cw2) := hy.cell 1; have y3 : w.cell? ⟨b8, 3, none⟩ = some (.bool r.1.dead) := hy.cell 3; go_simp; try rfl)); simp only [Act.put, List.setIfInBounds_toArray, List.set_cons_succ, List.set_cons_zero]; go_big_quiet_on
      go_big_quiet_want; apply quiet_value; (· (intro w hw; go_simp; try rfl)); simp only [Act.put, List.setIfInBounds_toArray, List.set_cons_succ, List.set_cons_zero]; go_big_quiet_on
      go_big_quiet_want; apply quiet_value (v := .bool false); (· (intro w hw; go_simp; try rfl)); simp only [Act.put, List.setIfInBounds_toArray, List.set_cons_succ, List.set_cons_zero]; go_big_quiet_on
      go_big_quiet_want; apply quiet_value; (· (intro w hw; go_simp; try rfl)); simp only [Act.put, List.setIfInBounds_toArray, List.set_cons_succ, List.set_cons_zero]; go_big_quiet_on
      refine wpQuiet_nil ?_
      intro w7 b7
      have HD7 := Lib.hid (HD6.out.bel b7)
      have HX7 := Lib.hid (HX6.out.below b7 HX6.out.lt)
      have HY7 := Lib.hid (HY6.out.below b7 HY6.out.lt)
      have HR7 := Lib.hid (HR6.out.bel b7)
      have HB7 := Lib.hid (HB6.out.trans (b7.mono HB6.out.size))
      clear b7 hwr
      go_wp2
      go_roundw
      case rel => exact ⟨k + 1, n', V', r.1, af2, aw2, cf2, cw2, by omega, rfl, by go_num, by rw [HN.out, ← HM.out]; exact congrArg Prod.fst HRR.out, HD7.out, HR7.out, HX7.out, HY7.out, HB7.out⟩
      case measure => simp [intOf]; omega
    · obtain rfl : k = len := by omega
      have hxs : xs.take k = xs := by rw [List.take_of_length_le (by have := HL.out; omega)]
      have hM' : M = playD xs M0 := by rw [HM.out, hxs]
      have HME := Lib.hid hM'
      have z0 : wr.cell? ⟨w.heap.size, 0, none⟩ = some (.slice none 0 0) := HX.out.cell 0
      have z1 : wr.cell? ⟨w.heap.size, 1, none⟩ = some (.slice none 0 0) := HX.out.cell 1
      have z2 : wr.cell? ⟨w.heap.size, 2, none⟩ = some (.int .i64 0) := HX.out.cell 2
      have z3 : wr.cell? ⟨w.heap.size, 3, none⟩ = some (.bool false) := HX.out.cell 3
      have f0 := HX.out.frozen 0
      have f1 := HX.out.frozen 1
      have f2 := HX.out.frozen 2
      have f3 := HX.out.frozen 3
      clear hxs hM'
      go_wp2_with fail
      refine wp_region_steps (fun w' => Box w' b8 28 #[.slice af M.firm.length cf, .slice aw M.wait.length cw, .int .i64 M.armed, .bool M.dead]) [(true, 0), (true, 1), (true, 2), (false, 3), (false, 4)] 4 _ _ (by kernel_rfl) rfl (by kernel_rfl) (by kernel_rfl) rfl (fun _ _ _ _ _ h => h) HY.out.drew ?_
      intro S HS
      simp only [pickS, List.getElem?_cons_zero, List.getElem?_cons_succ]
      refine wpSteps_head ?_
      go_big_quiet_want; go_big_quiet_op; go_big_quiet_on
      refine wpQuiet_nil ?_
      refine wpSteps_head ?_
      go_big_quiet_want; apply quiet_value; (· (intro w' hw; have hy := (HS.out _).1 hw; have y0 : w'.cell? ⟨b8, 0, none⟩ = some (.slice af M.firm.length cf) := hy.cell 0; have y1 : w'.cell? ⟨b8, 1, none⟩ = some (.slice aw M.wait.length cw) := hy.cell 1; have y2 : w'.cell? ⟨b8, 2, none⟩ = some (.int .i64 M.armed) := hy.cell 2; have y3 : w'.cell? ⟨b8, 3, none⟩ = some (.bool M.dead) := hy.cell 3; go_simp; try rfl)); simp only [Act.put, List.setIfInBounds_toArray, List.set_cons_succ, List.set_cons_zero]; go_big_quiet_on
      refine wpQuiet_nil ?_
      refine wpSteps_head ?_
      go_big_quiet_want; go_big_quiet_op; go_big_quiet_on
      refine wpQuiet_nil ?_
      refine wpSteps_more ?_
      go_wp2_with fail
      have hbn : b8 ≠ w.heap.size := by omega
      refine ThenS.mk ((HS.out _).2 ((((HY.out.drew.set_other (p := ⟨w.heap.size, 0, none⟩) hbn _).set_other (p := ⟨w.heap.size, 1, none⟩) hbn _).set_other (p := ⟨w.heap.size, 2, none⟩) hbn _).set_other (p := ⟨w.heap.size, 3, none⟩) hbn _)) ?_
      refine wpSteps_last ?_
      go_wp2
      rw [drew_four]
      have hT := set4_touch wr.drew w.heap.size (.slice af M.firm.length cf) (.slice aw M.wait.length cw) (.int .i64 M.armed) (.bool M.dead)
      have hno := HD.out.not28 HX.out
      refine ret_plays (s := 6) Try.results10 rfl rfl rfl rfl (set4_box (x := .slice af M.firm.length cf) (y := .slice aw M.wait.length cw) (z := .int .i64 M.armed) (q := .bool M.dead) HX.out.drew) ⟨n, V, af, aw, cf, cw, by rw [← HME.out]; rfl, ?_, ?_, ?_⟩
      · rw [← HME.out]; exact HD.out.drew.touch hT (fun k hk ho => hno (hk ▸ ho))
      · rw [← HME.out]; exact (RAt.stays (w := wr.drew) (HR.out.stays (Nat.le_refl _) (fun _ _ _ => rfl)) hT.size (fun k hk hb => hT.block k hk (fun e => hb (.inr (.inl e))))).mono (fun k _ h => .inl h)
      · exact Below.touch HB.out.drew hT (Nat.le_refl _) (fun k hk => by omega)
end Go.Proofs.Ytpgoacemjpobjaa
