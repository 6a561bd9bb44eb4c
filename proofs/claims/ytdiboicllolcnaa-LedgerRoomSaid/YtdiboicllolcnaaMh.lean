/- The walk of LedgerRoom. Conditions: the sizes lie in memory. -/
import Derived.Test.YtdiboicllolcnaaMd
namespace Go.Proofs.Ytdiboicllolcnaa
open Go Go.RowKit Go.ChangeShapes Go.WideShapes Go.ChangeAt Go.Deep
set_option linter.unusedVariables false
set_option linter.unusedSimpArgs false
variable {w w' : World} {base n nd b0 : Nat} {V V' : Vl} {VD VD' : Vs} {D D' : Dk} {G G' : Lg}
theorem St5.next {w0 wr : World} {M k : Nat} {s : List ByteArray × List ByteArray} (h : St5 w0 base n nd M wr k s V VD D G) : St5 w0 base n nd M wr (k + 1) s V VD D G :=
  ⟨h.ldg, h.inv, h.all, h.arm, Nat.le_succ_of_le h.mark, Nat.le_trans h.wait (Nat.mul_le_mul_right _ (Nat.le_succ k)), h.bel, h.b0, h.b1⟩
theorem row3 : (Try.prog.info? 3).map (fun i => (i.zero, i.size, i.bytes)) = some (some (.int .i64 0), 1, 8) := by kernel_rfl
theorem ints_src {a : Option Addr} {len : Nat} {zs : List Int} (h : Ints .i64 w a len zs) : Src w a len 1 (zs.map (Value.int .i64)) := by
  obtain ⟨hl, _, _, hc0⟩ := h
  refine ⟨by simp [hl], fun u hu => by obtain ⟨z, _, rfl⟩ := List.mem_map.1 hu; rfl, hc0.imp id ?_⟩
  rintro ⟨b, off, rfl, hc⟩
  refine ⟨_, rfl, fun j u hj => ?_⟩
  rw [List.getElem?_map] at hj
  obtain ⟨z, hz, rfl⟩ := Option.map_eq_some_iff.1 hj
  have hlt := (List.getElem?_eq_some_iff.1 hz).1
  rw [addr_add, hc j (by omega)]
  simp [List.getD_eq_getElem?_getD, hz]
theorem Ints.below {w w' : World} {a : Option Addr} {len B : Nat} {zs : List Int} (h : Ints .i64 w a len zs) (hb : Below B w w') (hB : w.heap.size ≤ B) : Ints .i64 w' a len zs := by
  obtain ⟨h1, h2, h3, h4⟩ := h
  refine ⟨h1, h2, h3, h4.imp id ?_⟩
  rintro ⟨b, off, rfl, hc⟩
  exact ⟨b, off, rfl, fun i hi => (hb.cell (p := ⟨b, off + i, none⟩) (by have h8 : b < w.heap.size := World.block_lt_of_cell? w _ (hc i hi); show b < B; omega)).trans (hc i hi)⟩
/-- bytes of nought that are made. -/
theorem mk_b (n : Nat) (hn : n ≤ 5000) (w : World) : ∃ cs : Array Value, cs.toList = bc (List.replicate n 0) ∧ (Instr.makeSlice 32 (.int .i64 (n : Int)) (.int .i64 (n : Int))).run Try.prog w = .ok (.slice (some ⟨w.heap.size, 0, none⟩) n n) (w.alloc (.cells cs 5)) := by
  obtain ⟨i, hi, hz, hs, hb⟩ : ∃ i, Try.prog.info? 5 = some i ∧ i.zero = some (.int .u8 0) ∧ i.size = 1 ∧ i.bytes = 1 := by
    have h : (Try.prog.info? 5).map (fun i => (i.zero, i.size, i.bytes)) = some (some (.int .u8 0), 1, 1) := by kernel_rfl
    obtain ⟨i, hi, h2⟩ := Option.map_eq_some_iff.1 h
    simp only [Prod.mk.injEq] at h2
    exact ⟨i, hi, h2.1, h2.2.1, h2.2.2⟩
  have := run_make (P := Try.prog) w 32 5 i _ Try.underlying32 hi hz .i64 .i64 n n (by omega) (Int.le_refl _) (by rw [hb]; omega) (by omega)
  rw [hs] at this
  simp only [Int.toNat_natCast] at this
  refine ⟨_, ?_, this⟩
  simp [madeCells, bc, Value.cells]
  apply List.ext_getElem?
  intro j
  by_cases hj : j < n
  · simp [hj, Nat.mod_one]
  · simp [hj]
theorem txt_size (l : Sec) : (txt l).size = l.length := by show l.toArray.size = l.length; exact List.size_toArray ..
theorem room_sure {M : Nat} (h4 : 4 ≤ M) (hs : G.size = (M - 2) / 2) : ¬ roomI G < min 4096 (32 * ((M : Int) - 2) - 128 - 4 - (G.b.length : Int)) ∧ ¬ roomI G < -1 ∧ ¬ 4096 < roomI G := by
  unfold roomI
  rw [hs]
  omega
set_option maxRecDepth 100000 in
set_option maxHeartbeats 8000000 in
theorem room_core (W : World) (m : Int) (a : Option Addr) (len cap : Nat) (zs : List Int) (hI : Ints .i64 W a len zs) :
    Calls Try.prog 3 #[.int .i64 m, .slice a len cap] W fun e W' => e = .returned (.bool true) ∧ Below W.heap.size W W' := by
  have HI := Lib.hid hI
  have hm := hI.2.2.1
  have HZL := Lib.hid hI.1
  unfold maxLen at hm
  clear hI
  by_cases h4 : m < 4
  · go_enter Try.func3, Try.ntmps3
    go_wp2_with fail
    refine (alive_any (w := W)).mono ?_
    rintro e w2 ⟨rfl, b2⟩
    have HB2 := Lib.hid b2
    clear b2
    go_wp2_with fail
    go_ret
    exact ⟨rfl, HB2.out⟩
  by_cases h2000 : 2000 < m
  · go_enter Try.func3, Try.ntmps3
    go_wp2_with fail
    refine (alive_any (w := W)).mono ?_
    rintro e w2 ⟨rfl, b2⟩
    have HB2 := Lib.hid b2
    clear b2
    go_wp2_with fail
    go_ret
    exact ⟨rfl, HB2.out⟩
  by_cases h100 : 100 < len
  · have h100' : (100 : Int) < (len : Int) := by omega
    go_enter Try.func3, Try.ntmps3
    go_wp2_with fail
    refine (alive_any (w := W)).mono ?_
    rintro e w2 ⟨rfl, b2⟩
    have HB2 := Lib.hid b2
    clear b2
    go_wp2_with fail
    go_ret
    exact ⟨rfl, HB2.out⟩
  have h100' : ¬ (100 : Int) < (len : Int) := by omega
  obtain ⟨M, rfl⟩ := Int.eq_ofNat_of_zero_le (show 0 ≤ m by omega)
  have hM4 : 4 ≤ M := by omega
  have hM2 : M ≤ 2000 := by omega
  have C2 := Lib.hid (opened_any (w := W) M hM4 hM2)
  obtain ⟨i0, hi, hz0, hz1, hz2⟩ := info_parts row3
  have HI0 := Lib.hid hi
  have HZ0 := Lib.hid hz0
  clear hi hz0
  go_enter Try.func3, Try.ntmps3
  go_wp2_with fail
  refine C2.out.mono ?_
  rintro e w2 ⟨nd, VD, n, V, rfl, hL, hR, b2⟩
  have hst0 := St5.start (w0 := W) (Below.refl _ _) hL hR (by rw [newD_is _ (by omega)]) (by rw [newD_is _ (by omega)]) b2
  generalize newD ((M + 4 : Nat) : Int) = D0 at hst0
  have hgb : (openedG 2 M 0 0 []).b.length = 0 := rfl
  obtain ⟨G0, hG0⟩ : ∃ G0, G0 = openedG 2 M 0 0 [] := ⟨_, rfl⟩
  rw [← hG0] at hst0 hgb
  have HST := Lib.hid hst0
  have HGB := Lib.hid hgb
  have HO1 := Lib.hid (World.ownsRow_lit (base := w2.heap.size) (e := 3) (size := 1) w2 #[.int .i64 0] 1 (Nat.le_refl _) (by unfold maxLen; omega) rfl)
  have hb3 : Below w2.heap.size w2 (w2.alloc (.cells #[.int .i64 0] 3)) := (Below.refl _ _).alloc (Nat.le_refl _) _
  have HB3 := Lib.hid hb3
  have HS3 := Lib.hid (ints_src ((HI.out.below b2 (Nat.le_refl _)).below hb3 (Nat.le_refl _)))
  have HSZ3 := Lib.hid (show w2.heap.size ≤ (w2.alloc (.cells #[.int .i64 0] 3)).heap.size by simp)
  clear hL hR b2 C2 hG0 hst0 hgb hb3
  go_wp2_with (at_builtin; refine wpList_append_at rfl (.tmp 30) (.tmp 31) 22 rfl w2.heap.size 3 i0 _ 1 8 Try.underlying22 HI0.out HZ0.out hz1 hz2 rfl (by decide) _ _ _ rfl HO1.out _ _ _ _ rfl HS3.out (by unfold maxLen; omega) (by omega) HSZ3.out ?_)
  intro v4 w4 own4 g4 at4
  have ow : w4.ownsRow w2.heap.size 3 1 v4 (1 + len) ((0 :: zs).map (Value.int .i64)) := own4
  have b4 := HB3.out.grown g4 HSZ3.out (own_ge HO1.out)
  have HST4 := Lib.hid (HST.out.below b4)
  have HNO := Lib.hid (show ∀ j, v4.ownBlock = some j → ¬ OfL n nd V VD j from fun j e ho => by
    have h1 := own_ge ow j e
    have h2 := HST.out.ldg.of_lt j ho
    omega)
  obtain ⟨q, hq⟩ : ∃ q, q = w2.heap.size := ⟨_, rfl⟩
  rw [← hq] at ow
  have HOW := Lib.hid ow
  obtain ⟨av, cv, rfl, _⟩ := own_shape ow
  obtain ⟨ys, hys⟩ : ∃ ys, ys = 0 :: zs := ⟨_, rfl⟩
  rw [← hys] at HOW
  have HYL := Lib.hid (show ys.length = 1 + len by rw [hys, List.length_cons, HZL.out]; omega)
  obtain ⟨N, hN⟩ : ∃ N, N = 1 + len := ⟨_, rfl⟩
  have hN1 : (1 : Int) + (len : Int) = (N : Int) := by omega
  have hNb : N ≤ 101 := by omega
  rw [← hN] at HOW HYL HNO ⊢
  clear own4 g4 at4 ow b4 HST HO1 HS3 HSZ3 HB3 hq hys hN HI
  go_wp2_with fail
  go_loopw [7, 34] (fun vn i wr => ∃ (k : Nat) (s : List ByteArray × List ByteArray) (V : Vl) (VD : Vs) (D : Dk) (G : Lg), k ≤ N ∧ i = .int .i64 k ∧ vn = .int .i64 (G.b.length : Nat) ∧ St5 W W.heap.size n nd M wr k s V VD D G ∧ wr.ownsRow q 3 1 (.slice av N cv) N (ys.map (Value.int .i64)) ∧ (∀ j, (Value.slice av N cv).ownBlock = some j → ¬ OfL n nd V VD j)) (fun _ i _ => N - (intOf i).toNat)
  case atStart => exact ⟨0, _, _, _, _, G0, Nat.zero_le _, rfl, by rw [HGB.out]; rfl, HST4.out, HOW.out, HNO.out⟩
  case round =>
    clear HST4 HOW HNO HGB
    obtain ⟨k, s, Vk, VDk, D, G, hk, rfl, rfl, hst, how, hno⟩ := hrel
    have HST := Lib.hid hst
    have HOW := Lib.hid how
    have HNO := Lib.hid hno
    by_cases hlt : k < N
    · obtain ⟨g, rfl, hgb, hgl, hgc⟩ := own_at how 0 (by omega)
      obtain ⟨z, hz⟩ : ∃ z, ys[k]? = some z := ⟨_, List.getElem?_eq_getElem (by rw [HYL.out]; exact hlt)⟩
      have hcell := hgc k (.int .i64 z) (by rw [List.getElem?_map, hz]; rfl)
      obtain ⟨r1, r2, r3⟩ := room_sure (G := G) hM4 hst.inv.sz
      have CR := Lib.hid (fun (w1 : World) (b1 : Below wr.heap.size wr w1) => room_any (hst.ldg.bel b1) hst.inv.ok.fits)
      have HSU := Lib.hid (fun w1 : World => sure_any (w := w1) (M : Int) (by omega) (by omega))
      obtain ⟨R, hR⟩ : ∃ R, R = roomI G := ⟨_, rfl⟩
      rw [← hR] at r1 r2 r3 CR
      have hbl := hst.inv.ok.fits.b
      have hsz := size_le hst
      obtain ⟨B, hB⟩ : ∃ B, B = G.b.length := ⟨_, rfl⟩
      rw [← hB] at r1 hbl ⊢
      have hBb : B ≤ 200000 := by omega
      have HBE := Lib.hid hB
      have hwt := hst.wait
      have hwb : k * (M + 2) ≤ 101 * 2002 := Nat.mul_le_mul (by omega) (by omega)
      have HWT := Lib.hid (show D.wait.length ≤ 700000 by omega)
      have HZK := Lib.hid hz
      obtain ⟨S, hS⟩ : ∃ S : Int, S = min 4096 (32 * ((M : Int) - 2) - 128 - 4 - (B : Int)) := ⟨_, rfl⟩
      rw [← hS] at r1
      have hmin : min (4096 : Int) (32 * ((M : Int) - 2) - 128 - 4 - (B : Int)) = S := hS.symm
      clear hst how hno hgb hgc hz hR hbl hsz hB hwt hwb hS
      by_cases hs : 32 * ((M : Int) - 2) - 128 - 4 - (B : Int) < 4096
      · have r1 : ¬ R < 32 * ((M : Int) - 2) - 128 - 4 - (B : Int) := by omega
        clear hmin
        go_wp2_with fail
        refine (HSU.out _).mono ?_
        rintro e w5 ⟨rfl, rfl⟩
        go_wp2_with fail
        refine (CR.out _ (Below.refl _ _)).mono ?_
        rintro e x1 ⟨rfl, b1⟩
        have HB1 := Lib.hid b1
        clear b1
        go_wp2_with fail
        refine (CR.out _ HB1.out).mono ?_
        rintro e x2 ⟨rfl, b2⟩
        have HB2 := Lib.hid (HB1.out.trans (b2.mono HB1.out.size))
        clear b2
        go_wp2_with fail
        refine (CR.out _ HB2.out).mono ?_
        rintro e x3 ⟨rfl, b3⟩
        have HB3 := Lib.hid (HB2.out.trans (b3.mono HB2.out.size))
        have HST3 := Lib.hid (HST.out.below HB3.out)
        have HOW3 := Lib.hid (own_stays HOW.out (w' := x3) fun j hj => HB3.out.block j (own_lt HOW.out j hj))
        clear b3
        by_cases hz0 : z < 0
        · go_wp2_with fail
          go_roundw
          case rel => exact ⟨k + 1, s, Vk, VDk, D, G, by omega, by go_num, by rw [HBE.out], HST3.out.next, HOW3.out, HNO.out⟩
          case measure => simp [intOf]; omega
        by_cases hz5 : 5000 < z
        · go_wp2_with fail
          go_roundw
          case rel => exact ⟨k + 1, s, Vk, VDk, D, G, by omega, by go_num, by rw [HBE.out], HST3.out.next, HOW3.out, HNO.out⟩
          case measure => simp [intOf]; omega
        obtain ⟨zn, rfl⟩ := Int.eq_ofNat_of_zero_le (show 0 ≤ z by omega)
        have hzn : zn ≤ 5000 := by omega
        obtain ⟨cs, hcs, hmk⟩ := mk_b zn hzn x3
        have hbx := Box.new x3 5 cs
        have hb4 : Below x3.heap.size x3 (x3.alloc (.cells cs 5)) := (Below.refl _ _).alloc (Nat.le_refl _) _
        have hby : Bys (x3.alloc (.cells cs 5)) (some ⟨x3.heap.size, 0, none⟩) zn (List.replicate zn 0) := ⟨by simp, by unfold maxLen; omega, .inr ⟨_, 0, rfl, hbx.lt, fun j v hj => by rw [Nat.zero_add, hbx.cell j, ← Array.getElem?_toList, hcs]; exact hj⟩⟩
        have hcv := conv_any (cap := zn) hby ⟨_, rfl⟩
        obtain ⟨T, hT⟩ : ∃ T, T = txt (List.replicate zn 0) := ⟨_, rfl⟩
        rw [← hT] at hcv
        have HTS := Lib.hid (show T.size = zn by rw [hT, txt_size, List.length_replicate])
        have HB4 := Lib.hid hb4
        have HST4 := Lib.hid (HST3.out.below hb4)
        have CA := Lib.hid (append_any T HST4.out.ldg HST4.out.b1 HST4.out.inv.ok HWT.out)
        obtain ⟨e1, e2, e3⟩ := lives_app T HST4.out.inv.ok HST4.out.inv.live HST4.out.arm
        have HE1 := Lib.hid e1
        have HAR := Lib.hid HST4.out.arm
        clear hcs hbx hb4 hby hT e1 e2 e3
        go_wp2_with fail
        refine CA.out.mono ?_
        rintro e x5 ⟨V5, VD5, rfl, l5, g5⟩
        have HST5 := Lib.hid (HST4.out.goes ⟨0, T, []⟩ (by omega) l5 g5)
        have HOW5 := Lib.hid (own_touch (own_stays HOW3.out (w' := x3.alloc (.cells cs 5)) fun j hj => HB4.out.block j (own_lt HOW3.out j hj)) g5.touch (fun j hj ho => HNO.out j hj ho))
        have HNO5 := Lib.hid (show ∀ j, (Value.slice (some ⟨g, 0, none⟩) N cv).ownBlock = some j → ¬ OfL n nd V5 VD5 j from fun j hj ho => by
          rcases g5.lies j ho with h1 | h1
          · exact HNO.out j hj h1
          · have h2 := own_lt HOW3.out j hj
            have h3 := HB4.out.size
            omega)
        have HST5 := Lib.hid (show St5 W W.heap.size n nd M x5 (k + 1) (doN ⟨0, T, []⟩ (appE D G T) s) V5 VD5 (appD D G T) (appG D G T) from HST5.out)
        rw [HE1.out]
        by_cases hno : appNo G T = 0
        · have HG5 := Lib.hid (show (appG D G T).b.length = B + zn + 4 by rw [app_0 T HAR.out hno]; show (G.b ++ frame T).length = _; rw [List.length_append, frame_len, HTS.out, ← HBE.out]; omega)
          rw [hno]
          clear l5 g5 CA hno hcv hmk
          go_wp2_with fail
          go_roundw
          case rel => exact ⟨k + 1, _, _, _, _, _, by omega, by go_num, by rw [HG5.out]; go_num, HST5.out, HOW5.out, HNO5.out⟩
          case measure => simp [intOf]; omega
        · have HG5 := Lib.hid (show (appG D G T).b.length = B by
            unfold appG
            rw [if_pos hno]
            exact HBE.out.symm)
          have hno' : (appNo G T == 0) = false := by simpa using hno
          obtain ⟨E, hE⟩ : ∃ E, E = appNo G T := ⟨_, rfl⟩
          rw [← hE] at hno' ⊢
          clear l5 g5 CA hno hcv hmk hE
          go_wp2_with fail
          go_roundw
          case rel => exact ⟨k + 1, _, _, _, _, _, by omega, by go_num, by rw [HG5.out], HST5.out, HOW5.out, HNO5.out⟩
          case measure => simp [intOf]; omega
      · have r1 : ¬ R < 4096 := by omega
        clear hmin
        go_wp2_with fail
        refine (HSU.out _).mono ?_
        rintro e w5 ⟨rfl, rfl⟩
        go_wp2_with fail
        refine (CR.out _ (Below.refl _ _)).mono ?_
        rintro e x1 ⟨rfl, b1⟩
        have HB1 := Lib.hid b1
        clear b1
        go_wp2_with fail
        refine (CR.out _ HB1.out).mono ?_
        rintro e x2 ⟨rfl, b2⟩
        have HB2 := Lib.hid (HB1.out.trans (b2.mono HB1.out.size))
        clear b2
        go_wp2_with fail
        refine (CR.out _ HB2.out).mono ?_
        rintro e x3 ⟨rfl, b3⟩
        have HB3 := Lib.hid (HB2.out.trans (b3.mono HB2.out.size))
        have HST3 := Lib.hid (HST.out.below HB3.out)
        have HOW3 := Lib.hid (own_stays HOW.out (w' := x3) fun j hj => HB3.out.block j (own_lt HOW.out j hj))
        clear b3
        by_cases hz0 : z < 0
        · go_wp2_with fail
          go_roundw
          case rel => exact ⟨k + 1, s, Vk, VDk, D, G, by omega, by go_num, by rw [HBE.out], HST3.out.next, HOW3.out, HNO.out⟩
          case measure => simp [intOf]; omega
        by_cases hz5 : 5000 < z
        · go_wp2_with fail
          go_roundw
          case rel => exact ⟨k + 1, s, Vk, VDk, D, G, by omega, by go_num, by rw [HBE.out], HST3.out.next, HOW3.out, HNO.out⟩
          case measure => simp [intOf]; omega
        obtain ⟨zn, rfl⟩ := Int.eq_ofNat_of_zero_le (show 0 ≤ z by omega)
        have hzn : zn ≤ 5000 := by omega
        obtain ⟨cs, hcs, hmk⟩ := mk_b zn hzn x3
        have hbx := Box.new x3 5 cs
        have hb4 : Below x3.heap.size x3 (x3.alloc (.cells cs 5)) := (Below.refl _ _).alloc (Nat.le_refl _) _
        have hby : Bys (x3.alloc (.cells cs 5)) (some ⟨x3.heap.size, 0, none⟩) zn (List.replicate zn 0) := ⟨by simp, by unfold maxLen; omega, .inr ⟨_, 0, rfl, hbx.lt, fun j v hj => by rw [Nat.zero_add, hbx.cell j, ← Array.getElem?_toList, hcs]; exact hj⟩⟩
        have hcv := conv_any (cap := zn) hby ⟨_, rfl⟩
        obtain ⟨T, hT⟩ : ∃ T, T = txt (List.replicate zn 0) := ⟨_, rfl⟩
        rw [← hT] at hcv
        have HTS := Lib.hid (show T.size = zn by rw [hT, txt_size, List.length_replicate])
        have HB4 := Lib.hid hb4
        have HST4 := Lib.hid (HST3.out.below hb4)
        have CA := Lib.hid (append_any T HST4.out.ldg HST4.out.b1 HST4.out.inv.ok HWT.out)
        obtain ⟨e1, e2, e3⟩ := lives_app T HST4.out.inv.ok HST4.out.inv.live HST4.out.arm
        have HE1 := Lib.hid e1
        have HAR := Lib.hid HST4.out.arm
        clear hcs hbx hb4 hby hT e1 e2 e3
        go_wp2_with fail
        refine CA.out.mono ?_
        rintro e x5 ⟨V5, VD5, rfl, l5, g5⟩
        have HST5 := Lib.hid (HST4.out.goes ⟨0, T, []⟩ (by omega) l5 g5)
        have HOW5 := Lib.hid (own_touch (own_stays HOW3.out (w' := x3.alloc (.cells cs 5)) fun j hj => HB4.out.block j (own_lt HOW3.out j hj)) g5.touch (fun j hj ho => HNO.out j hj ho))
        have HNO5 := Lib.hid (show ∀ j, (Value.slice (some ⟨g, 0, none⟩) N cv).ownBlock = some j → ¬ OfL n nd V5 VD5 j from fun j hj ho => by
          rcases g5.lies j ho with h1 | h1
          · exact HNO.out j hj h1
          · have h2 := own_lt HOW3.out j hj
            have h3 := HB4.out.size
            omega)
        have HST5 := Lib.hid (show St5 W W.heap.size n nd M x5 (k + 1) (doN ⟨0, T, []⟩ (appE D G T) s) V5 VD5 (appD D G T) (appG D G T) from HST5.out)
        rw [HE1.out]
        by_cases hno : appNo G T = 0
        · have HG5 := Lib.hid (show (appG D G T).b.length = B + zn + 4 by rw [app_0 T HAR.out hno]; show (G.b ++ frame T).length = _; rw [List.length_append, frame_len, HTS.out, ← HBE.out]; omega)
          rw [hno]
          clear l5 g5 CA hno hcv hmk
          go_wp2_with fail
          go_roundw
          case rel => exact ⟨k + 1, _, _, _, _, _, by omega, by go_num, by rw [HG5.out]; go_num, HST5.out, HOW5.out, HNO5.out⟩
          case measure => simp [intOf]; omega
        · have HG5 := Lib.hid (show (appG D G T).b.length = B by
            unfold appG
            rw [if_pos hno]
            exact HBE.out.symm)
          have hno' : (appNo G T == 0) = false := by simpa using hno
          obtain ⟨E, hE⟩ : ∃ E, E = appNo G T := ⟨_, rfl⟩
          rw [← hE] at hno' ⊢
          clear l5 g5 CA hno hcv hmk hE
          go_wp2_with fail
          go_roundw
          case rel => exact ⟨k + 1, _, _, _, _, _, by omega, by go_num, by rw [HG5.out], HST5.out, HOW5.out, HNO5.out⟩
          case measure => simp [intOf]; omega
    · obtain rfl : N = k := by omega
      clear hst how hno hlt
      go_wp2_with fail
      refine (alive_any (w := wr)).mono ?_
      rintro e y2 ⟨rfl, b2⟩
      have HBZ := Lib.hid (HST.out.bel.trans (b2.mono HST.out.bel.size))
      clear b2
      go_wp2_with fail
      go_ret
      exact ⟨rfl, HBZ.out⟩
theorem ledgerRoom_walk (W : World) (a0 : Int) (_w0 : (Lit.int .i64 a0).wf = true) (a : Option Addr) (len cap : Nat) (zs : List Int) (h : Ints .i64 W a len zs) (_hc : len ≤ cap) (_hb : len * 8 ≤ 140737488351232) :
    Calls Try.prog 3 #[.int .i64 a0, .slice a len cap] W fun e W' => e = .returned (.bool true) ∧ Below W.heap.size W W' := room_core W a0 a len cap zs h
end Go.Proofs.Ytdiboicllolcnaa
