/- The walk of CrateCuts. Conditions: the bodies lie in memory. -/
import Derived.Test.YtadgnemfjmiafaaWo
namespace Go.Proofs.Ytadgnemfjmiafaa
open Go.RowKit

theorem catOf_bound : ∀ (bs : List (List Int)), (∀ z ∈ bs, z.length ≤ 4096) → (catOf bs).length ≤ bs.length * 4108 := by
  intro bs
  induction bs with
  | nil => intro _; exact Nat.le_refl _
  | cons z bs ih =>
    intro h
    have h1 := h z (by simp)
    have h2 := ih (fun y hy => h y (by simp [hy]))
    rw [show catOf (z :: bs) = crateOf z ++ catOf bs by simp [catOf], List.length_append, crateOf_len, List.length_cons]
    omega
theorem cutOf_small (cut : Nat) : ∀ (bs : List (List Int)) (s : Nat × Nat × Nat), (cutOf cut s bs).2.1 ≤ s.2.1 + bs.length := by
  intro bs
  induction bs with
  | nil => intro s; exact Nat.le_refl _
  | cons z bs ih =>
    intro s
    have h := ih (cutStep cut s z)
    have e : (cutStep cut s z).2.1 ≤ s.2.1 + 1 := by unfold cutStep; split <;> simp
    show (cutOf cut (cutStep cut s z) bs).2.1 ≤ _
    rw [List.length_cons]; omega

set_option maxRecDepth 100000 in
set_option maxHeartbeats 4000000 in
theorem cuts_core (W : World) (a : Option Addr) (len cap : Nat) (bs : List Yld) (hP : BodiesAt W a len bs) (hcap : len ≤ cap) (hm : cap ≤ maxLen) (cut : Int) :
    Calls Try.prog 6 #[.slice a len cap, .int .i64 cut] W fun e W' => e = .returned (.bool true) ∧ Below W.heap.size W W' := by
  obtain ⟨i0, hi, hz0, hz1, hz2⟩ := info_parts info5
  unfold maxLen at hm
  have hlen : bs.length = len := by have := hP.1.1; simpa using this
  by_cases hbig : 50 < len
  · clear hP hlen
    go_enter Try.func6, Try.ntmps6
    go_wp2_with fail
    refine (alive_any _).mono ?_
    rintro e w2 ⟨rfl, bel2⟩
    go_wp2_with fail
    go_ret
    exact ⟨rfl, bel2⟩

  have HP := Lib.hid hP
  have hcell : ∀ k, k < len → ∃ b off x, a = some ⟨b, off, none⟩ ∧ b < W.heap.size ∧ bs[k]? = some x ∧ W.cell? ⟨b, off + k, none⟩ = some (.slice x.ad x.zs.length x.c) := by
    intro k hk
    obtain ⟨b, off, rfl, hb, hc⟩ := hP.1.2.resolve_left (by omega)
    obtain ⟨x, hx⟩ : ∃ x, bs[k]? = some x := ⟨_, List.getElem?_eq_getElem (by omega)⟩
    refine ⟨b, off, x, rfl, hb, hx, ?_⟩
    have := hc k [yv x] (by rw [List.getElem?_map, hx]; rfl) 0 (yv x) rfl
    rw [Nat.mul_one, Nat.add_zero] at this
    exact this
  have HC := Lib.hid hcell
  have HLEN := Lib.hid hlen
  have hl50 : len ≤ 50 := by omega
  obtain ⟨zl, hzl⟩ : ∃ zl, zl = bs.map Yld.zs := ⟨_, rfl⟩
  have hzlen : Hid (zl.length = len) := by rw [hzl, List.length_map]; exact hlen
  have HZL := Lib.hid hzl
  have hzr : Hid (∀ z ∈ zl, ∀ x ∈ z, 0 ≤ x ∧ x < 256) := by
    rintro z hz x hx
    rw [hzl] at hz
    obtain ⟨y, hy, rfl⟩ := List.mem_map.1 hz
    exact (hP.2 y hy).1.2.1 x hx
  obtain ⟨S, hS⟩ : ∃ S : Nat → Nat × Nat × Nat, S = fun k => cutOf cut.toNat (0, 0, 0) (zl.take k) := ⟨_, rfl⟩
  have HS := Lib.hid hS
  have S0 : Hid ((S 0).2.1 = 0 ∧ (S 0).2.2 = 0) := by rw [hS]; exact ⟨rfl, rfl⟩
  have SN : Hid (∀ k, (S k).2.1 ≤ k) := fun k => by rw [hS]; have := cutOf_small cut.toNat (zl.take k) (0, 0, 0); rw [List.length_take] at this; simp only at this ⊢; omega
  have SS : Hid (∀ k z, zl[k]? = some z → S (k + 1) = cutStep cut.toNat (S k) z ∧ (S k).1 = (catOf (zl.take k)).length ∧ catOf (zl.take (k + 1)) = catOf (zl.take k) ++ crateOf z ∧ zl.take (k + 1) = zl.take k ++ [z]) := by
    rintro k z hz
    have e : zl.take (k + 1) = zl.take k ++ [z] := by rw [List.take_add_one, hz]; rfl
    refine ⟨?_, ?_, ?_, e⟩
    · rw [hS]; simp only; rw [e, cutOf_snoc]
    · rw [hS]; simp only; rw [cutOf_len, Nat.zero_add]
    · rw [e, catOf_snoc]
  clear hP hcell hlen hzl hS hbig
  go_enter Try.func6, Try.ntmps6
  go_wp2
  go_loopw [5, 6, 7, 22] (fun b wh en i wr => ∃ k : Nat, k ≤ len ∧ i = .int .i64 k ∧ wh = .int .i64 ((S k).2.1 : Nat) ∧ en = .int .i64 ((S k).2.2 : Nat) ∧
      wr.ownsRow W.heap.size 5 1 b (catOf (zl.take k)).length ((catOf (zl.take k)).map (Value.int .u8)) ∧ Below W.heap.size W wr ∧ (∀ z ∈ zl.take k, z.length ≤ 4096)) (fun _ _ _ i _ => len - (intOf i).toNat)
  case atStart =>
    refine ⟨0, Nat.zero_le _, rfl, ?_, ?_, World.ownsRow_nil _ _ _ _, Below.refl _ _, by simp⟩
    · rw [S0.out.1]; rfl
    · rw [S0.out.2]; rfl
  case round =>
    obtain ⟨k, hk, rfl, rfl, rfl, hown, hbel, hsm⟩ := hrel
    have hbnd := catOf_bound _ hsm
    have HOWN := Lib.hid hown
    have HBEL := Lib.hid hbel
    have HSM := Lib.hid hsm
    have hn := SN.out k
    have hcr : Hid (∀ x ∈ catOf (zl.take k), 0 ≤ x ∧ x < 256) := catOf_range fun z hz => hzr.out z (List.mem_of_mem_take hz)
    rw [List.length_take] at hbnd
    have hbnd : (catOf (zl.take k)).length ≤ 205400 := by
      have : min k zl.length ≤ 50 := by omega
      omega
    clear hsm
    by_cases hlt : k < len
    · obtain ⟨b, off, x, rfl, hb, hx, hc0⟩ := HC.out k hlt
      have hc1 : wr.cell? ⟨b, off + k, none⟩ = some (.slice x.ad x.zs.length x.c) := (hbel.cell (p := ⟨b, off + k, none⟩) hb).trans hc0
      obtain ⟨hB0, _⟩ := HP.out.2 x (List.mem_of_getElem? hx)
      have HB := Lib.hid (hB0.below hbel)
      have hzk : Hid (zl[k]? = some x.zs) := by rw [HZL.out, List.getElem?_map, hx]; rfl
      have hml := hB0.2.2.1
      clear hc0 hx hB0 hown hbel
      by_cases hx4 : 4096 < x.zs.length
      · have C1 := Lib.hid (put_big x.ad x.zs.length x.c wr hx4 hml)
        clear hml
        go_wp2_with fail
        refine C1.out.mono ?_
        rintro e w1 ⟨rfl, rfl⟩
        go_wp2_with fail
        refine (alive_any _).mono ?_
        rintro e w2 ⟨rfl, bel2⟩
        go_wp2_with fail
        go_ret
        exact ⟨rfl, HBEL.out.trans (bel2.mono HBEL.out.size)⟩

      · have C1 := Lib.hid (put_any x.ad x.zs.length x.c x.zs wr HB.out (by omega))
        obtain ⟨SS1, SS2, SS3, SS4⟩ := SS.out k x.zs hzk.out
        obtain ⟨A, hA⟩ : ∃ A, A = catOf (zl.take k) := ⟨_, rfl⟩
        obtain ⟨M, hM⟩ : ∃ M, M = x.zs.length := ⟨_, rfl⟩
        have hM4 : M ≤ 4096 := by omega
        rw [← hA] at HOWN hbnd hcr SS2 SS3
        have HA := Lib.hid hA
        have HM := Lib.hid hM
        have SS1 := Lib.hid SS1
        have SS2 := Lib.hid SS2
        have SS3 := Lib.hid SS3
        have SS4 := Lib.hid SS4
        have hxr := Lib.hid HB.out.2.1
        rw [← hM] at C1
        rw [← hM] at hc1
        clear hA hM hml hx4 HB
        go_wp2_with fail
        refine C1.out.mono ?_
        rintro e w1 ⟨v1, rfl, own1, bel1⟩
        obtain ⟨ad1, k1, rfl, _, hb1⟩ := own_slice own1 (crateOf_range hxr.out) (by unfold maxLen; omega)
        have HS1 := Lib.hid hb1.src
        have HO1 := Lib.hid (own_below HOWN.out bel1)
        have hsz := HBEL.out.size
        have hsz1 := bel1.size
        have HB1 := Lib.hid (HBEL.out.trans (bel1.mono hsz))
        clear own1 hb1 bel1 C1 HOWN
        go_wp2_with (at_builtin; refine wpList_append_src rfl (.tmp 34) (.tmp 35) 22 rfl W.heap.size 5 i0 (.int .u8 0) 1 1 Try.underlying22 hi hz0 hz1 hz2 rfl (by decide) _ _ _ rfl HO1.out _ _ _ _ rfl HS1.out ?c2 ?c3 ?c4 ?_)
        case c2 => unfold maxLen; omega
        case c3 => omega
        case c4 => omega
        intro v2 w2 own2 g2
        have B2 := Lib.hid (HB1.out.grown g2 (by omega) (own_ge HO1.out))
        rw [← List.map_append] at own2
        obtain ⟨ad2, k2, rfl, _, _⟩ := own_slice own2 (fun y hy => (List.mem_append.1 hy).elim (hcr.out y) (crateOf_range hxr.out y)) (by unfold maxLen; omega)
        have HO2 := Lib.hid own2
        clear own2 g2 HB1 HO1 HS1
        by_cases hcut : (A.length : Int) + ((M : Int) + 12) ≤ cut
        · have HC2 := Lib.hid hcut
          have hcut2 : ((A.length + (M + 12) : Nat) : Int) ≤ cut := by omega
          clear hcut
          go_wp2
          go_roundw
          case rel =>
            have e1 : S (k + 1) = ((S k).1 + (x.zs.length + 12), (S k).2.1 + 1, (S k).1 + (x.zs.length + 12)) := by
              rw [SS1.out]; unfold cutStep; rw [if_pos (by rw [SS2.out, ← HM.out]; have := HC2.out; omega)]
            refine ⟨k + 1, by omega, by go_num, ?_, ?_, ?_, B2.out, ?_⟩
            · rw [e1]; go_num
            · rw [e1]; simp only; rw [SS2.out, ← HM.out]; push_cast; rfl
            · rw [SS3.out, List.length_append, crateOf_len, ← HM.out]; exact HO2.out
            · rw [SS4.out]; intro z hz
              rcases List.mem_append.1 hz with h | h
              · exact HSM.out z h
              · obtain rfl : z = x.zs := by simpa using h
                rw [← HM.out]; exact hM4
          case measure => simp [intOf]; omega
        · have HC2 := Lib.hid hcut
          have hcut2 : ¬ ((A.length + (M + 12) : Nat) : Int) ≤ cut := by omega
          clear hcut
          go_wp2
          go_roundw
          case rel =>
            have e1 : S (k + 1) = ((S k).1 + (x.zs.length + 12), (S k).2.1, (S k).2.2) := by
              rw [SS1.out]; unfold cutStep; rw [if_neg (by rw [SS2.out, ← HM.out]; have := HC2.out; omega)]
            refine ⟨k + 1, by omega, by go_num, ?_, ?_, ?_, B2.out, ?_⟩
            · rw [e1]
            · rw [e1]
            · rw [SS3.out, List.length_append, crateOf_len, ← HM.out]; exact HO2.out
            · rw [SS4.out]; intro z hz
              rcases List.mem_append.1 hz with h | h
              · exact HSM.out z h
              · obtain rfl : z = x.zs := by simpa using h
                rw [← HM.out]; exact hM4
          case measure => simp [intOf]; omega
    · obtain rfl : k = len := by omega
      have et : zl.take k = zl := List.take_of_length_le (by rw [hzlen.out]; exact Nat.le_refl _)
      rw [et] at HOWN hbnd hcr HSM
      obtain ⟨ad, kk, he, hkk, hbb⟩ := own_slice HOWN.out hcr.out (by unfold maxLen; omega)
      subst he
      have HBB := Lib.hid hbb
      have HCO := Lib.hid (fun (c : Nat) (h : c ≤ (catOf zl).length) => splitAll_cut zl c HSM.out h)
      obtain ⟨A, hA⟩ : ∃ A, A = catOf zl := ⟨_, rfl⟩
      rw [← hA] at hbnd hkk HBB HCO
      rw [← hA]
      clear hbb hown hbel HOWN hA hcr HSM et
      by_cases hneg : cut < 0
      · go_wp2_with fail
        refine (alive_any _).mono ?_
        rintro e w2 ⟨rfl, bel2⟩
        go_wp2_with fail
        go_ret
        exact ⟨rfl, HBEL.out.trans (bel2.mono HBEL.out.size)⟩
      · obtain ⟨c, rfl⟩ := Int.eq_ofNat_of_zero_le (by omega : 0 ≤ cut)
        by_cases hgt : A.length < c
        · go_wp2_with fail
          refine (alive_any _).mono ?_
          rintro e w2 ⟨rfl, bel2⟩
          go_wp2_with fail
          go_ret
          exact ⟨rfl, HBEL.out.trans (bel2.mono HBEL.out.size)⟩
        · obtain ⟨h1, h2, h3⟩ := HCO.out c (by omega)
          have eS : S k = cutOf c (0, 0, 0) zl := by rw [HS.out]; simp only; rw [List.take_of_length_le (by rw [hzlen.out]; exact Nat.le_refl _)]; rfl
          rw [← eS] at h1 h2 h3
          clear eS
          obtain ⟨N, hN⟩ : ∃ N, N = (S k).2.1 := ⟨_, rfl⟩
          obtain ⟨E, hE⟩ : ∃ E, E = (S k).2.2 := ⟨_, rfl⟩
          rw [← hN] at h1 h3 hn
          rw [← hE] at h1 h2
          rw [← hN, ← hE]
          have H1 := Lib.hid h1
          have hfr : ∀ w : World, (Instr.sliceAt 22 (.slice ad A.length kk) none (some (.int .i64 (c : Int))) none).run Try.prog w = .ok (.slice ad c kk) w := run_front ad A.length kk c (by omega)
          have C3 := Lib.hid (split_any ad c kk (A.take c) wr (HBB.out.take c (by omega)) (by omega) (by omega))
          clear hN hE h1
          go_wp2_with fail
          refine C3.out.mono ?_
          rintro e w2 ⟨v2, xs, rfl, hx2, hr2, hf2, bel2⟩
          rw [H1.out] at hx2 ⊢
          simp only at hx2 ⊢
          obtain ⟨p2, k2, rfl, hk2, src2⟩ := row_src hr2 (yv_one xs)
          have hxl : xs.length = N := by
            have := congrArg List.length hx2
            rw [List.length_map, List.length_take, hzlen.out] at this
            omega
          have HX := Lib.hid hx2
          have HR := Lib.hid hr2
          have HF := Lib.hid hf2
          have HB2 := Lib.hid (HBEL.out.trans (bel2.mono HBEL.out.size))
          rw [hxl]
          rw [hxl] at HR
          have HXL := Lib.hid hxl
          clear hx2 hr2 hf2 bel2 src2 hxl C3 hk2
          have e30 : ((whyOf 30 : Nat) : Int) = 0 := rfl
          have en : ((N : Int) != (N : Int)) = false := bne_self_eq_false _
          have ec : (((c - E : Nat) : Int) != (c : Int) - (E : Int)) = false := by simp; omega
          rw [e30]
          go_wp2
          go_loopw [80] (fun i wr' => ∃ j : Nat, j ≤ N ∧ i = .int .i64 j ∧ Below w2.heap.size w2 wr') (fun i _ => N - (intOf i).toNat)
          case atStart => exact ⟨0, Nat.zero_le _, rfl, Below.refl _ _⟩
          case round =>
            obtain ⟨j, hj, rfl, hbl2⟩ := hrel
            by_cases hlt2 : j < N
            · obtain ⟨b, off, x, rfl, bl, hx, hc0⟩ := HC.out j (by omega)
              obtain ⟨y, hy⟩ : ∃ y, xs[j]? = some y := ⟨_, List.getElem?_eq_getElem (by rw [HXL.out]; exact hlt2)⟩
              have hyz : y.zs = x.zs := by
                have h1 := congrArg (fun l : List (List Int) => l[j]?) HX.out
                simp only [List.getElem?_map, hy, Option.map_some, List.getElem?_take_of_lt hlt2, HZL.out, hx] at h1
                simpa using h1
              obtain ⟨g5, c5, e5, d5, hk3⟩ := row_at HR.out j y hy
              obtain ⟨rfl, rfl⟩ : p2 = some ⟨g5, 0, none⟩ ∧ k2 = c5 := by injection e5 with e1 e2 e3; exact ⟨e1, e3⟩
              have HBX := Lib.hid ((HP.out.2 x (List.mem_of_getElem? hx)).1.below (HB2.out.mono (Nat.le_refl _)))
              have HBY := Lib.hid (YRow.bytes (HF.out y (List.mem_of_getElem? hy)))
              have g5l : g5 < w2.heap.size := World.block_lt_of_cell? w2 _ d5
              have D5 := Lib.hid d5
              have D0 := Lib.hid ((HB2.out.cell (p := ⟨b, off + j, none⟩) bl).trans hc0)
              have bl : b < w2.heap.size := by have := HB2.out.size; omega
              have HBL := Lib.hid hbl2
              have hkl : j < k := by omega
              clear e5 hx hy d5 hbl2 hc0
              rw [hyz] at HBY D5
              clear hyz
              go_wp2
              refine wp_region_below (B := w2.heap.size) (w0 := w2) (by kernel_rfl) (by kernel_rfl) HBL.out ?_
              go_big_quiet_want; go_big_quiet_op; go_big_quiet_on
              go_big_quiet_want; go_big_quiet_op; go_big_quiet_on
              go_big_quiet_want; apply quiet_value; (· (intro w' hw; go_simp; try rfl)); simp only [Act.put, List.setIfInBounds_toArray, List.set_cons_succ, List.set_cons_zero]; go_big_quiet_on
              go_big_quiet_want; apply quiet_value; (· (intro w' hw; have d5 := (hw.cell (p := ⟨g5, j, none⟩) g5l).trans D5.out; go_simp; try rfl)); simp only [Act.put, List.setIfInBounds_toArray, List.set_cons_succ, List.set_cons_zero]; go_big_quiet_on
              go_big_quiet_want; apply quiet_value; (· (intro w' hw; have := (HBY.out.below hw).str y.c; go_simp; try rfl)); simp only [Act.put, List.setIfInBounds_toArray, List.set_cons_succ, List.set_cons_zero]; go_big_quiet_on
              go_big_quiet_want; go_big_quiet_op; go_big_quiet_on
              go_big_quiet_want; go_big_quiet_op; go_big_quiet_on
              go_big_quiet_want; apply quiet_value; (· (intro w' hw; go_simp; try rfl)); simp only [Act.put, List.setIfInBounds_toArray, List.set_cons_succ, List.set_cons_zero]; go_big_quiet_on
              go_big_quiet_want; apply quiet_value; (· (intro w' hw; have d0 := (hw.cell (p := ⟨b, off + j, none⟩) bl).trans D0.out; go_simp; try rfl)); simp only [Act.put, List.setIfInBounds_toArray, List.set_cons_succ, List.set_cons_zero]; go_big_quiet_on
              go_big_quiet_want; apply quiet_value; (· (intro w' hw; have := (HBX.out.below hw).str x.c; go_simp; try rfl)); simp only [Act.put, List.setIfInBounds_toArray, List.set_cons_succ, List.set_cons_zero]; go_big_quiet_on
              go_big_quiet_want; apply quiet_value (v := .bool false); (· (intro w' hw; go_simp; try rfl)); simp only [Act.put, List.setIfInBounds_toArray, List.set_cons_succ, List.set_cons_zero]; go_big_quiet_on
              refine wpQuiet_nil ?_
              intro w8 hb8
              go_wp2
              go_roundw
              case rel => exact ⟨j + 1, by omega, by go_num, hb8⟩
              case measure => simp [intOf]; omega
            · obtain rfl : j = N := by omega
              have HB := Lib.hid (HB2.out.trans (hbl2.mono HB2.out.size))
              clear hbl2
              go_wp2_with fail
              refine (alive_any _).mono ?_
              rintro e w8 ⟨rfl, bel8⟩
              go_wp2_with fail
              go_ret
              exact ⟨rfl, HB.out.trans (bel8.mono HB.out.size)⟩
theorem crateCuts_walk {H : Type} {enc : TypeId × Value → H} {base : Nat} {p0 : List MemPlace} (W : World) (v0 : Value) (d0 : DataW H) (hv : Value.okWide Try.prog W .any base 31 v0) (h : DataW.Trod enc Try.prog W 0 (fun _ => true) true 31 v0 d0 p0) (_b : ∀ n ∈ d0.weights Try.prog 31, n ≤ 140737488351232)
    (a1 : Int) (_w1 : (Lit.int .i64 a1).wf = true) :
    Calls Try.prog 6 #[v0, .int .i64 a1] W fun e W' => e = .returned (.bool true) ∧ Below W.heap.size W W' := by
  obtain ⟨a, len, cap, bs, rfl, hP, h1, h2⟩ := open_bodies hv h
  exact cuts_core W a len cap bs hP h1 h2 a1
end Go.Proofs.Ytadgnemfjmiafaa
