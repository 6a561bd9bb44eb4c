/- porter: PorterTurns, the walk of an unanswered call. Conditions: the client can be, the volume is there. -/
import Derived.Test.YtlkilkndjfcejaaPl
namespace Go.Proofs.Ytlkilkndjfcejaa
open Go Go.RowKit
set_option linter.unusedVariables false
set_option linter.unusedSimpArgs false
variable {w w' : World} {base n : Nat} {V V' : Vs} {s s' : St}

theorem ptr_nn (n : Nat) (w : World) : (binOp .neq 26 (.pointer (some ⟨n, 0, none⟩)) (.pointer none)).run Try.prog w = .ok (.bool true) w := by kernel_rfl
/-- a list of requests that lies apart from the client. -/
structure Lst (w : World) (base n : Nat) (V : Vs) (u : Value) (L : List Rq) : Prop where
  row : w.ownsRow base 54 20 u L.length (L.flatMap ql)
  dis : ∀ b, u.ownBlock = some b → ¬ Of n V b
theorem Lst.goes {u : Value} {L : List Rq} (h : Lst w base n V u L) (g : Goes w w' n V V') : Lst w' base n V' u L := by
  refine ⟨own_stays h.row fun b hb => g.touch.block b (own_lt h.row b hb) (h.dis b hb), fun b hb ho => ?_⟩
  rcases g.lies b ho with h1 | h1
  · exact h.dis b hb h1
  · have := own_lt h.row b hb; omega
theorem Lst.below {u : Value} {L : List Rq} (h : Lst w base n V u L) (hb : Below w.heap.size w w') : Lst w' base n V u L := ⟨own_stays h.row fun b hv => hb.block b (own_lt h.row b hv), h.dis⟩
def tpost (W : World) (e : Ending) (w' : World) : Prop := e = .returned (.bool true) ∧ Below W.heap.size W w'
set_option maxRecDepth 100000 in
set_option maxHeartbeats 8000000 in
theorem turns_main (W : World) (cl : Int) (P vol m : Nat) (x : Addr) (cap : Nat) (zs : List Int) (h : Ints .i64 W (some x) zs.length zs) (hy : newB cl zs (P : Int) = true) (hP : P ≤ 60) (hm : zs[vol]? = some (m : Int)) :
    Calls Try.prog 4 #[.agg #[.int .i64 cl, .slice (some x) zs.length cap, .int .i64 (P : Nat)], .int .i64 (vol : Nat)] W (tpost W) := by
  have hvl : vol < zs.length := (List.getElem?_eq_some_iff.1 hm).1
  have hok := newS_ok cl zs P hy
  have hmr := hok.fit.many vol m hm
  have hst : startB (newS cl zs P) (vol : Int) c9 = true := by
    rw [new_start_any, thereB]
    simp only [Bool.and_eq_true, decide_eq_true_eq]
    exact ⟨by omega, by show (vol : Int) < (zs.length : Int); omega⟩
  have hT0 := Turns.start cl zs P vol hy hvl m (by rw [List.getD_eq_getElem?_getD, hm]; rfl)
  have hok1 := hok.start (vol : Int) c9 (by show (0 : Int) < 100000; omega)
  have hpos : 0 < (P : Int) := hok.fit.pa0
  have B0 := Lib.hid ((Below.refl W.heap.size W).alloc (Nat.le_refl _) (.cells #[.int .i64 cl, .slice (some x) zs.length cap, .int .i64 (P : Nat)] 24))
  obtain ⟨W0, hW0⟩ : ∃ W0, W0 = W.alloc (.cells #[.int .i64 cl, .slice (some x) zs.length cap, .int .i64 (P : Nat)] 24) := ⟨_, rfl⟩
  have HX := Lib.hid (Box.new W 24 #[.int .i64 cl, .slice (some x) zs.length cap, .int .i64 (P : Nat)])
  have hI0 := h.below B0.out
  rw [← hW0] at B0 HX hI0
  have C0 := new_yes W0 cl P x zs.length cap zs hI0 hy
  unfold NewPost at C0
  have C0 := Lib.hid C0
  have HI := Lib.hid h
  obtain ⟨S0, hS0⟩ : ∃ S0, S0 = newS cl zs P := ⟨_, rfl⟩
  obtain ⟨S1, hS1⟩ : ∃ S1, S1 = startS S0 (vol : Int) c9 := ⟨_, rfl⟩
  obtain ⟨c, hc⟩ : ∃ c, c = { c9 with cl := cl, nu := 1 } := ⟨_, rfl⟩
  have hcn : c.nu = 1 := by rw [hc]
  have P1 := fun (w : World) (V : Vs) (n : Nat) (h : Pt w W0.heap.size n V S0) (hb : W0.heap.size ≤ w.heap.size) => start_any (vol : Int) c9 h (by rw [hS0]; exact hok) hb (by rw [hS0]; show ([] : List Rq).length ≤ 500; simp) (by rw [hS0]; show (0 : Int) < 100000; omega)
  rw [← hS0] at C0 hst hT0 hok1
  rw [hst, ← hS1] at P1
  rw [← hS1, ← hc] at hT0
  rw [← hS1] at hok1
  have HP1 := Lib.hid P1
  have HT0 := Lib.hid hT0
  have HOK := Lib.hid hok1
  have HM := Lib.hid hm
  have HCN := Lib.hid hcn
  have HW0 := Lib.hid hW0
  obtain ⟨q, hq⟩ : ∃ q, q = 3 * m * P := ⟨_, rfl⟩
  obtain ⟨t, ht⟩ : ∃ t, t = 3 * m := ⟨_, rfl⟩
  have hm7 : m ≤ 7 := by omega
  have hm1 : 1 ≤ m := by omega
  have hq1 : q ≤ 1260 := by rw [hq]; exact Nat.le_trans (Nat.mul_le_mul (show 3 * m ≤ 21 by omega) hP) (by omega)
  have w1 : IntKind.i64.wrap (3 * (m : Int)) = (t : Int) := by rw [IntKind.wrap_i64, ht]; omega
  have w2 : IntKind.i64.wrap ((t : Int) * (P : Int)) = (q : Int) := by
    have e : (t : Int) * (P : Int) = ((t * P : Nat) : Int) := by simp
    rw [e, ht, ← hq, IntKind.wrap_i64]; omega
  obtain ⟨T, hT⟩ : ∃ T, T = q + 5 := ⟨_, rfl⟩
  have w3 : IntKind.i64.wrap ((q : Int) + 5) = (T : Int) := by rw [IntKind.wrap_i64]; omega
  have HTQ := Lib.hid hT
  have hT5 : T ≤ 1265 := by omega
  have HQ := Lib.hid hq
  have HTT := Lib.hid ht
  have ht21 : t ≤ 21 := by omega
  clear h hy hm hok hmr hst hT0 hok1 hpos hI0 hS0 hS1 hc P1 hq ht hW0 hcn hT
  go_enter Try.func4, Try.ntmps4
  go_wp2_with fail
  rw [← HW0.out]
  refine C0.out.mono ?_
  rintro e wa ⟨n, V, rfl, hP0, b1⟩
  have HB := Lib.hid b1
  have HP0 := Lib.hid hP0
  have HX1 := Lib.hid (HX.out.below b1 (by rw [HW0.out, World.size_alloc]; omega))
  have x0 : wa.cell? ⟨W.heap.size, 0, none⟩ = some (.int .i64 cl) := HX1.out.cell 0
  have x1 : wa.cell? ⟨W.heap.size, 1, none⟩ = some (.slice (some x) zs.length cap) := HX1.out.cell 1
  have x2 : wa.cell? ⟨W.heap.size, 2, none⟩ = some (.int .i64 (P : Nat)) := HX1.out.cell 2
  have hxl := HX1.out.lt
  have hne := ptr_ne n
  have hp60 : ¬ 60 < P := by omega
  clear hP0 b1 C0 HX
  go_wp2_with fail
  refine (HP1.out wa V n HP0.out HB.out.size).mono ?_
  rintro e wb ⟨rfl, V2, hP2, g2⟩
  have HB2 := Lib.hid (g2.below HB.out (Nat.le_refl _) HP0.out.of_ge)
  have HQ2 := Lib.hid hP2
  have hsb : W.heap.size < W0.heap.size := by rw [HW0.out, World.size_alloc]; omega
  have HX2 := Lib.hid (HX1.out.touch g2.touch (fun ho => by have := HP0.out.of_ge _ ho; omega))
  have hbW := B0.out.trans (HB2.out.mono B0.out.size)
  have HBW := Lib.hid hbW
  obtain ⟨bb, off, hxe, hbb, d0⟩ := (HI.out.below hbW).at_ vol (m : Int) HM.out
  obtain rfl := Option.some.inj hxe
  have y1 : wb.cell? ⟨W.heap.size, 1, none⟩ = some (.slice (some ⟨bb, off, none⟩) zs.length cap) := HX2.out.cell 1
  have y2 : wb.cell? ⟨W.heap.size, 2, none⟩ = some (.int .i64 (P : Nat)) := HX2.out.cell 2
  have hxl2 := HX2.out.lt
  have HL0 := Lib.hid (show Lst wb W0.heap.size n V2 (.slice none 0 0) [] from ⟨World.ownsRow_nil _ _ _ _, fun _ h => by cases h⟩)
  clear hP2 g2 HB HP0 HX1 HP1 x0 x1 x2 hxl hne hp60 hbW hxe
  go_wp2_with fail
  go_loopw [8, 62] (fun lv i wr => ∃ (k : Nat) (V : Vs) (s : St) (L : List Rq), k ≤ T ∧ i = .int .i64 k ∧ Pt wr W0.heap.size n V s ∧ Okay s ∧ Turns P m vol c k s L ∧ Lst wr W0.heap.size n V lv L ∧ Box wr W.heap.size 24 #[.int .i64 cl, .slice (some ⟨bb, off, none⟩) zs.length cap, .int .i64 (P : Nat)] ∧ Below W0.heap.size W0 wr ∧ (0 < k → s.out = [])) (fun _ i _ => T - (intOf i).toNat)
  case atStart => exact ⟨0, V2, S1, [], by omega, rfl, HQ2.out, HOK.out, HT0.out, HL0.out, HX2.out, HB2.out, fun h => by omega⟩
  case round =>
    obtain ⟨k, V, s, L, hk, rfl, hP, hO, hT, hL, hX, hb, hz⟩ := hrel
    obtain ⟨ad, cd, rfl, _⟩ := own_shape hL.row
    have HP := Lib.hid hP
    have HO := Lib.hid hO
    have HT := Lib.hid hT
    have HL := Lib.hid hL
    have HX := Lib.hid hX
    have HB := Lib.hid hb
    have HZ := Lib.hid hz
    have hlen := hT.len
    rw [← HTT.out, List.length_append] at hlen
    clear hP hO hT hL hX hb hz HT0 HOK HL0 HX2 HB2 HQ2 y1 y2 d0
    by_cases hlt : k < T
    · go_wp2_with fail
      refine (tick_any HP.out HO.out HB.out.size (by omega)).mono ?_
      rintro e w3 ⟨rfl, V3, hP3, g3⟩
      have HP3 := Lib.hid hP3
      have HL3 := Lib.hid (HL.out.goes g3)
      have HX3 := Lib.hid (HX.out.touch g3.touch (fun ho => by have := HP.out.of_ge _ ho; omega))
      have HB3 := Lib.hid (g3.below HB.out (Nat.le_refl _) HP.out.of_ge)
      have hsl := HT.out.step.len
      clear hP3 g3 HP HL HX HB
      go_wp2_with fail
      refine (out_any HP3.out).mono ?_
      rintro e w4 ⟨rfl, hP4, g4, hk4⟩
      have hro : w4.ownsRow W0.heap.size 54 20 V3.o (tickS s).out.length ((tickS s).out.flatMap ql) := own_stays HP3.out.ro fun b hb => hk4 b (by rintro rfl; exact own_box_ne HP3.out.ro HP3.out.box (by decide) hb)
      obtain ⟨ao, co, hvo, _⟩ := own_shape hro
      have HVO := Lib.hid hvo
      rw [hvo] at hro
      have HSRC := Lib.hid (own_src hro (ql_one _))
      have HP4 := Lib.hid hP4
      have HL4 := Lib.hid (HL3.out.goes g4)
      have HX4 := Lib.hid (HX3.out.touch g4.touch (fun ho => by have := HP3.out.of_ge _ ho; omega))
      have HB4 := Lib.hid (g4.below HB3.out (Nat.le_refl _) HP3.out.of_ge)
      have hrl := HL4.out.row
      have HRL := Lib.hid hrl
      rw [hvo]
      obtain ⟨i0, hi, hz0, hz1, hz2⟩ := info_parts row54
      have HI0 := Lib.hid hi
      have HZ0 := Lib.hid hz0
      have hout : (tickS s).out.length ≤ 21 := by
        have h1 := HT.out.step.len
        have h2 : (outS (tickS s)).out = [] := rfl
        rw [h2, List.append_nil, List.length_append, ← HTT.out] at h1
        omega
      have HBS := Lib.hid HB4.out.size
      clear hP4 g4 hk4 hro hvo HP3 HL3 HX3 HB3 hrl hi hz0 hsl
      go_wp2_with (at_builtin; refine wpList_append_at rfl (.tmp 66) (.tmp 68) 84 rfl W0.heap.size 54 i0 _ 20 192 Try.underlying84 HI0.out HZ0.out hz1 hz2 rfl (by decide) _ _ _ rfl HRL.out _ _ _ _ rfl HSRC.out ?c2 ?c3 HBS.out ?_)
      case c2 => unfold maxLen; omega
      case c3 => omega
      intro v6 w6 own6 g6 at6
      obtain ⟨ad6, c6, rfl, _⟩ := own_shape own6
      have hgl : ∀ b, (Value.slice ad L.length cd).ownBlock = some b → W0.heap.size ≤ b := own_ge HRL.out
      have hd4 := HL4.out.dis
      have hP6 : Pt w6 W0.heap.size n { V3 with o := .slice none 0 0 } (outS (tickS s)) := HP4.out.stays fun b hb ho => g6.block b hb (fun e => hd4 b e.symm ho)
      have HP6 := Lib.hid hP6
      have HX6 := Lib.hid (HX4.out.grown g6 (fun e => by have := hgl _ e.symm; omega))
      have HB6 := Lib.hid (HB4.out.grown g6 HBS.out hgl)
      have HL6 := Lib.hid (show Lst w6 W0.heap.size n { V3 with o := .slice none 0 0 } (.slice ad6 (L.length + (tickS s).out.length) c6) (L ++ (tickS s).out) from ⟨by rw [List.length_append, List.flatMap_append]; exact own6, fun b hb ho => by
        rcases at6 with h1 | h1
        · rw [h1] at hb; exact hd4 b hb ho
        · have h2 := HP4.out.of_lt b ho
          rw [h1] at hb
          obtain rfl := Option.some.inj hb
          omega⟩)
      clear own6 g6 at6 hgl hd4 hP6 HL4 HX4 HB4 HP4 HRL HSRC
      go_wp2_with fail
      go_roundw
      case rel => exact ⟨k + 1, _, _, _, by omega, by go_num, HP6.out, (HO.out.tick).out, HT.out.step, HL6.out, HX6.out, HB6.out, fun _ => rfl⟩
      case measure => simp [intOf]; omega
    · obtain rfl : k = T := by omega
      obtain ⟨hLq, hdn⟩ := HT.out.fin (by rw [← HQ.out]; have := HTQ.out; omega) (HZ.out (by have := HTQ.out; omega))
      have HLQ := Lib.hid hLq
      have HDN := Lib.hid hdn
      have hll : L.length = t := by rw [hLq, rqs_len, ← HTT.out]
      have hrow := HL.out.row
      have HROW := Lib.hid hrow
      have y2 : wr.cell? ⟨W.heap.size, 2, none⟩ = some (.int .i64 (P : Nat)) := HX.out.cell 2
      have hDD := HDN
      clear hLq hdn hrow HT HZ
      rw [hll]
      go_wp2_with fail
      go_loopw [9, 10, 78] (fun _ _ i wv => ∃ k : Nat, k ≤ t ∧ i = .int .i64 k ∧ Below wr.heap.size wr wv) (fun _ _ i _ => t - (intOf i).toNat)
      case atStart => exact ⟨0, Nat.zero_le _, rfl, Below.refl _ _⟩
      case round =>
        rename World => wv
        obtain ⟨k, hk, rfl, hbv⟩ := hrel
        have HBV := Lib.hid hbv
        by_cases hlt2 : k < t
        · have hk2 : L[k]? = some ⟨vol, ((k % m : Nat) : Int), c⟩ := by rw [HLQ.out, rqs_at _ _ _ _ _ (by rw [← HTT.out]; exact hlt2)]
          obtain ⟨g, cp, he, _, hgl, _, _, hc0⟩ := own_atN ql_len (own_stays HROW.out (w' := wv) fun b hb => hbv.block b (own_lt HROW.out b hb)) rfl k _ hk2
          obtain ⟨rfl, rfl⟩ : ad = some ⟨g, 0, none⟩ ∧ cd = cp := by simpa using he
          obtain ⟨sv, hsv⟩ : ∃ sv : Int, sv = ((k % m : Nat) : Int) := ⟨_, rfl⟩
          have HR : Hid (wv.rangeAt g (k * 20) [.int .i64 (vol : Nat), .int .i64 sv, .int .i64 c.cl, .int .i64 c.nu, .int .i64 c.kd, .int .i64 c.h1, .int .i64 c.h2, .int .i64 c.g1, .int .i64 c.g2, .string c.nm, .string c.ot, .int .i64 c.m1, .int .i64 c.m2, .int .i64 c.m3, .string c.mt, .bool c.fo, .int .i64 c.aa, .int .i64 c.nn, .int .i64 c.tt, .string c.bb]) := Lib.hid (fun j u hu => hc0 j u (by rw [← hsv]; exact hu))
          have hmod : (k : Int).tmod (m : Int) = sv := by rw [Int.tmod_eq_emod_of_nonneg (by omega), hsv]; simp
          have hm0 : ¬ (m : Int) = 0 := by omega
          have HYB := Lib.hid ((Box.new wv 54 #[.int .i64 0, .int .i64 0, .int .i64 0, .int .i64 0, .int .i64 0, .int .i64 0, .int .i64 0, .int .i64 0, .int .i64 0, .string ⟨#[]⟩, .string ⟨#[]⟩, .int .i64 0, .int .i64 0, .int .i64 0, .string ⟨#[]⟩, .bool false, .int .i64 0, .int .i64 0, .int .i64 0, .string ⟨#[]⟩]).setRow #[.int .i64 (vol : Nat), .int .i64 sv, .int .i64 c.cl, .int .i64 c.nu, .int .i64 c.kd, .int .i64 c.h1, .int .i64 c.h2, .int .i64 c.g1, .int .i64 c.g2, .string c.nm, .string c.ot, .int .i64 c.m1, .int .i64 c.m2, .int .i64 c.m3, .string c.mt, .bool c.fo, .int .i64 c.aa, .int .i64 c.nn, .int .i64 c.tt, .string c.bb])
          have HBV2 := Lib.hid (Below.setRow (HBV.out.alloc HBV.out.size (.cells #[.int .i64 0, .int .i64 0, .int .i64 0, .int .i64 0, .int .i64 0, .int .i64 0, .int .i64 0, .int .i64 0, .int .i64 0, .string ⟨#[]⟩, .string ⟨#[]⟩, .int .i64 0, .int .i64 0, .int .i64 0, .string ⟨#[]⟩, .bool false, .int .i64 0, .int .i64 0, .int .i64 0, .string ⟨#[]⟩] 54)) HBV.out.size #[.int .i64 (vol : Nat), .int .i64 sv, .int .i64 c.cl, .int .i64 c.nu, .int .i64 c.kd, .int .i64 c.h1, .int .i64 c.h2, .int .i64 c.g1, .int .i64 c.g2, .string c.nm, .string c.ot, .int .i64 c.m1, .int .i64 c.m2, .int .i64 c.m3, .string c.mt, .bool c.fo, .int .i64 c.aa, .int .i64 c.nn, .int .i64 c.tt, .string c.bb])
          clear he hc0 hbv hsv
          go_wp2_with (first | (refine wpList_load_mid rfl 54 (.tmp 81) rfl g (k * 20) rfl _ _ HR.out Try.underlying54 rfl (by kernel_rfl) ?_) | (refine wpList_store_box rfl 54 (.tmp 10) (.tmp 82) rfl rfl _ 0 rfl [.int .i64 (vol : Nat), .int .i64 sv, .int .i64 c.cl, .int .i64 c.nu, .int .i64 c.kd, .int .i64 c.h1, .int .i64 c.h2, .int .i64 c.g1, .int .i64 c.g2, .string c.nm, .string c.ot, .int .i64 c.m1, .int .i64 c.m2, .int .i64 c.m3, .string c.mt, .bool c.fo, .int .i64 c.aa, .int .i64 c.nn, .int .i64 c.tt, .string c.bb] rfl (Box.new wv 54 #[.int .i64 0, .int .i64 0, .int .i64 0, .int .i64 0, .int .i64 0, .int .i64 0, .int .i64 0, .int .i64 0, .int .i64 0, .string ⟨#[]⟩, .string ⟨#[]⟩, .int .i64 0, .int .i64 0, .int .i64 0, .string ⟨#[]⟩, .bool false, .int .i64 0, .int .i64 0, .int .i64 0, .string ⟨#[]⟩]) #[.int .i64 (vol : Nat), .int .i64 sv, .int .i64 c.cl, .int .i64 c.nu, .int .i64 c.kd, .int .i64 c.h1, .int .i64 c.h2, .int .i64 c.g1, .int .i64 c.g2, .string c.nm, .string c.ot, .int .i64 c.m1, .int .i64 c.m2, .int .i64 c.m3, .string c.mt, .bool c.fo, .int .i64 c.aa, .int .i64 c.nn, .int .i64 c.tt, .string c.bb] rfl (by kernel_rfl) rfl rfl ?_))
          generalize (wv.alloc (.cells #[.int .i64 0, .int .i64 0, .int .i64 0, .int .i64 0, .int .i64 0, .int .i64 0, .int .i64 0, .int .i64 0, .int .i64 0, .string ⟨#[]⟩, .string ⟨#[]⟩, .int .i64 0, .int .i64 0, .int .i64 0, .string ⟨#[]⟩, .bool false, .int .i64 0, .int .i64 0, .int .i64 0, .string ⟨#[]⟩] 54)).setRow wv.heap.size #[.int .i64 (vol : Nat), .int .i64 sv, .int .i64 c.cl, .int .i64 c.nu, .int .i64 c.kd, .int .i64 c.h1, .int .i64 c.h2, .int .i64 c.g1, .int .i64 c.g2, .string c.nm, .string c.ot, .int .i64 c.m1, .int .i64 c.m2, .int .i64 c.m3, .string c.mt, .bool c.fo, .int .i64 c.aa, .int .i64 c.nn, .int .i64 c.tt, .string c.bb] = w9 at HYB HBV2 ⊢
          have q0 : w9.cell? ⟨wv.heap.size, 0, none⟩ = some (.int .i64 (vol : Nat)) := HYB.out.cell 0
          have q1 : w9.cell? ⟨wv.heap.size, 1, none⟩ = some (.int .i64 sv) := HYB.out.cell 1
          have q3 : w9.cell? ⟨wv.heap.size, 3, none⟩ = some (.int .i64 c.nu) := HYB.out.cell 3
          rw [HCN.out] at q3
          have hql := HYB.out.lt
          clear HR hk2
          go_quiet (fail)
          go_wp2_with fail
          go_roundw
          case rel => exact ⟨k + 1, by omega, by go_num, Below.drewN HBV2.out nq⟩
          case measure => simp [intOf]; omega
        · have HPv := Lib.hid (HP.out.below hbv (Nat.le_refl _))
          have HBq := Lib.hid (HB.out.trans (hbv.mono HB.out.size))
          clear hbv
          go_wp2_with fail
          refine (done_yes _ HPv.out HDN.out).mono ?_
          rintro e w10 ⟨rfl, hP10, g10⟩
          have HB10 := Lib.hid (g10.below HBq.out (Nat.le_refl _) HPv.out.of_ge)
          clear hP10 g10
          unfold zeroAn
          go_wp2_with fail
          refine (alive_any _).mono ?_
          rintro e w11 ⟨rfl, b11⟩
          have hRB := (Box.new w10 81 (sc ⟨1, 210, zeroAn⟩)).below b11 (by rw [World.size_alloc]; omega)
          have r1 : w11.cell? ⟨w10.heap.size, 1, none⟩ = some (.int .i64 210) := hRB.cell 1
          have hrl := hRB.lt
          have HB11 := Lib.hid ((HB10.out.alloc HB10.out.size (.cells (sc ⟨1, 210, zeroAn⟩) 81)).trans (b11.mono (by rw [World.size_alloc]; have := HB10.out.size; omega)))
          clear b11 hRB
          go_wp2_with fail
          go_ret
          exact ⟨rfl, B0.out.trans (HB11.out.mono B0.out.size)⟩
theorem turns_core (W : World) (cl pa vol : Int) (a : Option Addr) (len cap : Nat) (zs : List Int) (h : Ints .i64 W a len zs) :
    Calls Try.prog 4 #[.agg #[.int .i64 cl, .slice a len cap, .int .i64 pa], .int .i64 vol] W fun e w' => e = .returned (.bool true) ∧ Below W.heap.size W w' := by
  cases hy : newB cl zs pa
  · exact turns_new W cl pa vol a len cap zs h hy
  · obtain rfl := h.1
    have hok := newS_ok cl zs pa hy
    have hpa : 0 < pa := hok.fit.pa0
    have hzl : 0 < zs.length := hok.fit.vol
    obtain ⟨P, rfl⟩ := Int.eq_ofNat_of_zero_le (show 0 ≤ pa by omega)
    obtain ⟨b, off, rfl, _⟩ := h.at_ 0 zs[0] (List.getElem?_eq_getElem hzl)
    by_cases hbad : 60 < P ∨ vol < 0 ∨ (zs.length : Int) ≤ vol
    · exact turns_early W cl P vol _ cap zs h hy hbad
    · obtain ⟨v, rfl⟩ := Int.eq_ofNat_of_zero_le (show 0 ≤ vol by omega)
      have hv : v < zs.length := by omega
      have hm := hok.fit.many v zs[v] (List.getElem?_eq_getElem hv)
      obtain ⟨m, hm'⟩ := Int.eq_ofNat_of_zero_le (show 0 ≤ zs[v] by omega)
      exact turns_main W cl P v m _ cap zs h hy (by omega) (by rw [List.getElem?_eq_getElem hv, hm'])
set_option maxRecDepth 100000 in
theorem porterTurns_walk {H : Type} {enc : TypeId × Value → H} {base : Nat} {p0 : List MemPlace} (W : World) (v0 : Value) (d0 : DataW H) (hv : Value.okWide Try.prog W .any base 24 v0) (h : DataW.Trod enc Try.prog W 0 (fun _ => true) true 24 v0 d0 p0) (_b : ∀ n ∈ d0.weights Try.prog 24, n ≤ 140737488351232)
    (vol : Int) (_w : (Lit.int .i64 vol).wf = true) : Calls Try.prog 4 #[v0, .int .i64 vol] W fun e W' => e = .returned (.bool true) ∧ Below W.heap.size W W' := by
  obtain ⟨cl, pa, a, len, cap, zs, rfl, hI⟩ := who_open hv h
  exact turns_core W cl pa vol a len cap zs hI
end Go.Proofs.Ytlkilkndjfcejaa
