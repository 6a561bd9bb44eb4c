/- The document's disk: read, firm, dies. Conditions: its rows lie in memory. -/
import Derived.Test.YtpgoacemjpobjaaPi
namespace Go.Proofs.Ytpgoacemjpobjaa
open Go Go.RowKit
set_option linter.unusedVariables false
set_option linter.unusedSimpArgs false
variable {w w' : World} {base n : Nat} {bad bad' : Nat → Prop} {D : Dk}

def st (s : Sec) : Value := .string ⟨s.toArray⟩
def strC (l : List Sec) : List Value := l.map st
def wr2 (x : Wr) : List Value := [.int .i64 x.1, st x.2]
def wrC (l : List Wr) : List Value := l.flatMap wr2
theorem strC_one (l : List Sec) : ∀ u ∈ strC l, u.oneCell' = true := by
  intro u hu; obtain ⟨c, _, rfl⟩ := List.mem_map.1 hu; rfl
theorem wrC_one (l : List Wr) : ∀ u ∈ wrC l, u.oneCell' = true := by
  intro u hu; obtain ⟨x, _, hs⟩ := List.mem_flatMap.1 hu
  simp only [wr2, List.mem_cons, List.not_mem_nil, or_false] at hs
  rcases hs with rfl | rfl <;> rfl
theorem wr2_len (l : List Wr) : ∀ x ∈ l, (wr2 x).length = 2 := fun _ _ => rfl
/-- a row of texts that is read alone. -/
def SeeF (w : World) (bad : Nat → Prop) (ad : Option Addr) (l : List Sec) : Prop :=
  l = [] ∨ ∃ g, ad = some ⟨g, 0, none⟩ ∧ g < w.heap.size ∧ ¬ bad g ∧ ∀ j s, l[j]? = some s → w.cell? ⟨g, j, none⟩ = some (st s)
def SeeW (w : World) (bad : Nat → Prop) (ad : Option Addr) (l : List Wr) : Prop :=
  l = [] ∨ ∃ g, ad = some ⟨g, 0, none⟩ ∧ g < w.heap.size ∧ ¬ bad g ∧ ∀ j x, l[j]? = some x → w.cell? ⟨g, j * 2, none⟩ = some (.int .i64 x.1) ∧ w.cell? ⟨g, j * 2 + 1, none⟩ = some (st x.2)
theorem SeeF.mono {ad : Option Addr} {l : List Sec} (h : SeeF w bad ad l) (hb : ∀ k, k < w.heap.size → bad' k → bad k) : SeeF w bad' ad l :=
  h.imp id fun ⟨g, h1, h2, h3, h4⟩ => ⟨g, h1, h2, fun h => h3 (hb g h2 h), h4⟩
theorem SeeW.mono {ad : Option Addr} {l : List Wr} (h : SeeW w bad ad l) (hb : ∀ k, k < w.heap.size → bad' k → bad k) : SeeW w bad' ad l :=
  h.imp id fun ⟨g, h1, h2, h3, h4⟩ => ⟨g, h1, h2, fun h => h3 (hb g h2 h), h4⟩
theorem SeeF.stays {ad : Option Addr} {l : List Sec} (h : SeeF w bad ad l) (hs : w.heap.size ≤ w'.heap.size) (hk : ∀ k, k < w.heap.size → ¬ bad k → w'.heap[k]? = w.heap[k]?) : SeeF w' bad ad l := by
  refine h.imp id ?_
  rintro ⟨g, h1, h2, h3, h4⟩
  have e : ∀ j, w'.cell? ⟨g, j, none⟩ = w.cell? ⟨g, j, none⟩ := fun j => World.cell?_of_block (a := ⟨g, j, none⟩) (hk g h2 h3)
  exact ⟨g, h1, by omega, h3, fun j s hj => by rw [e]; exact h4 j s hj⟩
theorem SeeW.stays {ad : Option Addr} {l : List Wr} (h : SeeW w bad ad l) (hs : w.heap.size ≤ w'.heap.size) (hk : ∀ k, k < w.heap.size → ¬ bad k → w'.heap[k]? = w.heap[k]?) : SeeW w' bad ad l := by
  refine h.imp id ?_
  rintro ⟨g, h1, h2, h3, h4⟩
  have e : ∀ j, w'.cell? ⟨g, j, none⟩ = w.cell? ⟨g, j, none⟩ := fun j => World.cell?_of_block (a := ⟨g, j, none⟩) (hk g h2 h3)
  exact ⟨g, h1, by omega, h3, fun j s hj => by rw [e, e]; exact h4 j s hj⟩
theorem SeeF.bel {ad : Option Addr} {l : List Sec} (h : SeeF w bad ad l) (hb : Below w.heap.size w w') : SeeF w' bad ad l := h.stays hb.size fun k hk _ => hb.block k hk
theorem SeeW.bel {ad : Option Addr} {l : List Wr} (h : SeeW w bad ad l) (hb : Below w.heap.size w w') : SeeW w' bad ad l := h.stays hb.size fun k hk _ => hb.block k hk
theorem SeeF.of_own {B c m : Nat} {ad : Option Addr} {l : List Sec} (h : w.ownsRow B 9 1 (.slice ad m c) m (strC l)) (hb : ∀ k, k < w.heap.size → B ≤ k → ¬ bad k) : SeeF w bad ad l := by
  rcases Nat.eq_zero_or_pos l.length with h0 | h0
  · exact .inl (List.length_eq_zero_iff.1 h0)
  · have hl := h.1
    simp only [strC, List.length_map] at hl
    obtain ⟨g, h1, h2, h3, h4⟩ := own_at h 0 (by omega)
    exact .inr ⟨g, h1, h3, hb g h3 h2, fun j s hj => h4 j _ (by simp [strC, hj])⟩
theorem SeeW.of_own {B c m : Nat} {ad : Option Addr} {l : List Wr} (h : w.ownsRow B 72 2 (.slice ad m c) m (wrC l)) (hb : ∀ k, k < w.heap.size → B ≤ k → ¬ bad k) : SeeW w bad ad l := by
  rcases Nat.eq_zero_or_pos l.length with h0 | h0
  · exact .inl (List.length_eq_zero_iff.1 h0)
  · have hl := h.1
    rw [wrC, fm_len wr2 2 l (wr2_len l)] at hl
    obtain ⟨g, h1, h2, h3, h4⟩ := own_at h 0 (by omega)
    refine .inr ⟨g, h1, h3, hb g h3 h2, fun j x hj => ⟨h4 _ _ ?_, h4 _ _ ?_⟩⟩
    · have := fm_get wr2 2 l (wr2_len l) j x hj 0 (by decide); exact this
    · have := fm_get wr2 2 l (wr2_len l) j x hj 1 (by decide); exact this
theorem SeeF.src {ad : Option Addr} {l : List Sec} (h : SeeF w bad ad l) : Src w ad l.length 1 (strC l) := by
  refine ⟨by simp [strC], strC_one l, ?_⟩
  rcases h with rfl | ⟨g, h1, _, _, h4⟩
  · exact .inl rfl
  · refine .inr ⟨_, h1, fun j u hj => ?_⟩
    rw [Addr.add_lit, Nat.zero_add]
    simp only [strC, List.getElem?_map, Option.map_eq_some_iff] at hj
    obtain ⟨s, hs, rfl⟩ := hj
    exact h4 j s hs
theorem SeeW.src {ad : Option Addr} {l : List Wr} (h : SeeW w bad ad l) : Src w ad l.length 2 (wrC l) := by
  refine ⟨by rw [wrC, fm_len wr2 2 l (wr2_len l)], wrC_one l, ?_⟩
  rcases h with rfl | ⟨g, h1, _, _, h4⟩
  · exact .inl rfl
  · refine .inr ⟨_, h1, fun j u hj => ?_⟩
    rw [Addr.add_lit, Nat.zero_add]
    have hlt := (List.getElem?_eq_some_iff.1 hj).1
    rw [wrC, fm_len wr2 2 l (wr2_len l)] at hlt
    have hd : j / 2 < l.length := by omega
    have hx := List.getElem?_eq_getElem hd
    have h5 := fm_get wr2 2 l (wr2_len l) (j / 2) _ hx (j % 2) (by omega)
    have e : j / 2 * 2 + j % 2 = j := by omega
    rw [e] at h5
    rw [wrC, h5] at hj
    have h6 := h4 _ _ hx
    rcases Nat.mod_two_eq_zero_or_one j with h7 | h7
    · rw [h7] at hj
      have : j = j / 2 * 2 := by omega
      rw [this, h6.1]; exact hj
    · rw [h7] at hj
      have : j = j / 2 * 2 + 1 := by omega
      rw [this, h6.2]; exact hj
def rdv (af aw : Option Addr) (cf cw : Nat) (D : Dk) : Value := .agg #[.slice af D.firm.length cf, .slice aw D.wait.length cw, .int .i64 D.armed, .bool D.dead]
structure RAt (w : World) (bad : Nat → Prop) (af aw : Option Addr) (cf cw : Nat) (D : Dk) : Prop where
  f : SeeF w bad af D.firm
  w : SeeW w bad aw D.wait
  cf : D.firm.length ≤ cf
  cw : D.wait.length ≤ cw
theorem ret_box28 {fn : Func} {R : Ending → World → Prop} {act : Act} {w : World} {t : Nat} {b : Nat} {x y z q : Value} (h : fn.results = #[.cell t 28]) (hd : act.defers = []) (ht : act.tmps.getD t undef = .pointer (some ⟨b, 0, none⟩))
    (hb : Box w b 28 #[x, y, z, q]) (hR : R (.returned (.agg #[x, y, z, q])) w) : bodyPost Try.prog fn R .ret act w := by
  have c0 : w.cell? ⟨b, 0, none⟩ = some x := hb.cell 0
  have c1 : w.cell? ⟨b, 1, none⟩ = some y := hb.cell 1
  have c2 : w.cell? ⟨b, 2, none⟩ = some z := hb.cell 2
  have c3 : w.cell? ⟨b, 3, none⟩ = some q := hb.cell 3
  refine bodyPost_ret (v := .agg #[x, y, z, q]) ?_ hd hR
  rw [Array.getD_eq_getD_getElem?] at ht
  simp [results, h, ht, go_sem, c0, c1, c2, c3]
/-- a sector as it was written last. -/
def lastAt (D : Dk) (k i : Nat) : Sec := (laid D.firm (D.wait.take k)).getD i []
theorem lastAt_next {k i : Nat} {x : Wr} (hx : D.wait[k]? = some x) (hi : i < D.firm.length) : lastAt D (k + 1) i = if x.1 = i then x.2 else lastAt D k i := by
  unfold lastAt
  rw [laid_take _ _ _ _ hx, List.getD_eq_getElem?_getD, List.getD_eq_getElem?_getD, List.getElem?_set]
  by_cases h : x.1 = i
  · rw [if_pos h, if_pos h, if_pos (by rw [laid_len]; omega)]; rfl
  · rw [if_neg h, if_neg h]
set_option maxHeartbeats 1000000 in
theorem rread_any {af aw : Option Addr} {cf cw : Nat} (i : Nat) (h : RAt w bad af aw cf cw D) (hi : i < D.firm.length) (hfl : D.firm.length ≤ 65536) (hwl : D.wait.length ≤ 1000000) :
    Calls Try.prog 27 #[rdv af aw cf cw D, .int .i64 (i : Int)] w fun e w' => e = .returned (st (lastAt D D.wait.length i)) ∧ Below w.heap.size w w' := by
  obtain ⟨g, rfl, hg, _, hF⟩ := h.f.resolve_left (fun e => by rw [e] at hi; simp at hi)
  have HX := Lib.hid (Box.new w 28 #[.slice (some ⟨g, 0, none⟩) D.firm.length cf, .slice aw D.wait.length cw, .int .i64 D.armed, .bool D.dead])
  have B0 := Lib.hid ((Below.refl w.heap.size w).alloc (Nat.le_refl _) (.cells #[.slice (some ⟨g, 0, none⟩) D.firm.length cf, .slice aw D.wait.length cw, .int .i64 D.armed, .bool D.dead] 28))
  have HW := Lib.hid (h.w.bel B0.out)
  have hs := hF i _ (List.getElem?_eq_getElem hi)
  have HSt := Lib.hid (show D.firm[i] = lastAt D 0 i by simp [lastAt, laid, hi])
  obtain ⟨s0, hs0⟩ : ∃ s0, s0 = D.firm[i] := ⟨_, rfl⟩
  rw [← hs0] at HSt hs
  unfold st at hs
  have hii : (i : Int) < (D.firm.length : Int) := by omega
  have HF := Lib.hid hF
  unfold rdv
  clear h hF hs0
  go_enter Try.func27, Try.ntmps27
  go_wp2_with fail
  generalize w.alloc (.cells #[.slice (some ⟨g, 0, none⟩) D.firm.length cf, .slice aw D.wait.length cw, .int .i64 D.armed, .bool D.dead] 28) = w0 at HX B0 HW ⊢
  have x1 : w0.cell? ⟨w.heap.size, 1, none⟩ = some (.slice aw D.wait.length cw) := HX.out.cell 1
  go_loopw [5, 6] (fun sv iv wr => ∃ k : Nat, k ≤ D.wait.length ∧ iv = .int .i64 k ∧ sv = st (lastAt D k i) ∧ wr = w0) (fun _ iv _ => D.wait.length - (intOf iv).toNat)
  case atStart => exact ⟨0, Nat.zero_le _, rfl, by rw [← HSt.out]; rfl, rfl⟩
  case round =>
    obtain ⟨k, hk, rfl, rfl, rfl⟩ := hrel
    unfold st
    by_cases hlt : k < D.wait.length
    · obtain ⟨x, hx⟩ : ∃ x, D.wait[k]? = some x := ⟨_, List.getElem?_eq_getElem hlt⟩
      obtain ⟨gw, rfl, hgw, _, hW⟩ := HW.out.resolve_left (fun e => by rw [e] at hlt; simp at hlt)
      obtain ⟨d0, d1⟩ := hW k x hx
      unfold st at d1
      have HN := Lib.hid (lastAt_next hx hi)
      clear hx hW
      by_cases hq : x.1 = i
      · have hq' : ((x.1 : Int) == (i : Int)) = true := by simp [hq]
        go_wp2
        go_roundw
        case rel =>
          refine ⟨k + 1, by omega, by go_num, ?_, trivial⟩
          rw [HN.out, if_pos hq]
        case measure => simp [intOf]; omega
      · have hq' : ((x.1 : Int) == (i : Int)) = false := by simp; omega
        go_wp2
        go_roundw
        case rel =>
          refine ⟨k + 1, by omega, by go_num, ?_, trivial⟩
          rw [HN.out, if_neg hq]
        case measure => simp [intOf]; omega
    · obtain rfl : k = D.wait.length := by omega
      go_wp2
      go_ret
      exact ⟨rfl, B0.out⟩
theorem isz9 : (Try.prog.info? 9).map (fun i => (i.zero, i.size, i.bytes)) = some (some (.string ⟨#[]⟩), 1, 16) := by kernel_rfl
set_option maxHeartbeats 1000000 in
theorem rfirm_any {af aw : Option Addr} {cf cw : Nat} (l : List Sec) (ws : List Wr) (hF : SeeF w bad af l) (hW : SeeW w bad aw ws) (hlies : ∀ x ∈ ws, x.1 < l.length) (hfl : l.length ≤ 65536) (hwl : ws.length ≤ 1000000) :
    Calls Try.prog 28 #[.slice af l.length cf, .slice aw ws.length cw] w fun e w' => ∃ ad c, e = .returned (.slice ad l.length c) ∧ w'.ownsRow w.heap.size 9 1 (.slice ad l.length c) l.length (strC (laid l ws)) ∧ Below w.heap.size w w' := by
  have HO1 := Lib.hid (World.ownsRow_lit (base := w.heap.size) (e := 9) (size := 1) w #[] 0 (Nat.le_refl _) (by decide) rfl)
  have B0 := Lib.hid ((Below.refl w.heap.size w).alloc (Nat.le_refl _) (.cells #[] 9))
  have HS1 := Lib.hid ((hF.bel B0.out).src)
  have HW := Lib.hid hW
  have HLI := Lib.hid hlies
  obtain ⟨i0, hi, hz0, hz1, hz2⟩ := info_parts isz9
  have HI := Lib.hid hi
  have HZZ := Lib.hid hz0
  have HSZ := Lib.hid (show w.heap.size ≤ (w.alloc (.cells #[] 9)).heap.size by simp)
  clear hF hW hlies hi hz0
  go_enter Try.func28, Try.ntmps28
  go_wp2_with (at_builtin; refine wpList_append_at rfl (.tmp 7) (.tmp 8) 25 rfl w.heap.size 9 i0 _ 1 16 Try.underlying25 HI.out HZZ.out hz1 hz2 rfl (by decide) _ _ _ rfl HO1.out _ _ _ _ rfl HS1.out (by unfold maxLen; omega) (by omega) HSZ.out ?_; intro v2 w2 own2 g2 at2; obtain ⟨a2, c2, rfl, hc2⟩ := own_shape own2)
  have HO2 := Lib.hid (show w2.ownsRow w.heap.size 9 1 (.slice a2 (0 + l.length) c2) l.length (strC (laid l (ws.take 0))) by simpa [laid] using own2)
  have HB2 := Lib.hid (B0.out.grown g2 HSZ.out (own_ge HO1.out))
  clear own2 g2 at2
  rw [Nat.zero_add] at HO2
  go_loopw [6] (fun iv wr => ∃ k : Nat, k ≤ ws.length ∧ iv = .int .i64 k ∧ wr.ownsRow w.heap.size 9 1 (.slice a2 l.length c2) l.length (strC (laid l (ws.take k))) ∧ Below w.heap.size w wr) (fun iv _ => ws.length - (intOf iv).toNat)
  case atStart => exact ⟨0, Nat.zero_le _, rfl, HO2.out, HB2.out⟩
  case round =>
    obtain ⟨k, hk, rfl, hO, hB⟩ := hrel
    have HO := Lib.hid hO
    have HB := Lib.hid hB
    by_cases hlt : k < ws.length
    · obtain ⟨x, hx⟩ : ∃ x, ws[k]? = some x := ⟨_, List.getElem?_eq_getElem hlt⟩
      obtain ⟨gw, rfl, hgw, _, hWW⟩ := (HW.out.bel HB.out).resolve_left (fun e => by rw [e] at hlt; simp at hlt)
      obtain ⟨d0, d1⟩ := hWW k x hx
      have hxl := HLI.out x (List.mem_of_getElem? hx)
      have HLX := Lib.hid (laid_take l ws k x hx)
      obtain ⟨g2, rfl, hg2, hg2l, hcc⟩ := own_at hO 0 (by omega)
      have HD := Lib.hid (show wr.cell? ⟨gw, k * 2, none⟩ = some (.int .i64 (x.1 : Int)) ∧ wr.cell? ⟨gw, k * 2 + 1, none⟩ = some (.string ⟨x.2.toArray⟩) from ⟨d0, d1⟩)
      have HG2 := Lib.hid hg2
      have cc := hcc x.1 _ (List.getElem?_eq_getElem (by simp only [strC, List.length_map, laid_len]; exact hxl))
      have ff := own_free hO x.1
      have hxi : (x.1 : Int) < (l.length : Int) := by omega
      clear hO hB hx hWW hcc d0 d1
      go_wp2
      refine wp_region_phase (fun w' => w'.cell? ⟨gw, k * 2, none⟩ = some (.int .i64 (x.1 : Int)) ∧ w'.cell? ⟨gw, k * 2 + 1, none⟩ = some (.string ⟨x.2.toArray⟩)) [true, true, true, true, true, true, true, true, true, true, true, false, false] 12 _ _ _ (by kernel_rfl) rfl rfl (by kernel_rfl) rfl rfl (fun _ _ _ _ _ h => h) (⟨HD.out.1, HD.out.2⟩) ?_
      intro S HS
      simp only [taken, leftOut]
      go_big_quiet_want; go_big_quiet_op; go_big_quiet_on
      go_big_quiet_want; go_big_quiet_op; go_big_quiet_on
      go_big_quiet_want; go_big_quiet_op; go_big_quiet_on
      go_big_quiet_want; apply quiet_value; (· (intro w' hw; go_simp; try rfl)); simp only [Act.put, List.setIfInBounds_toArray, List.set_cons_succ, List.set_cons_zero]; go_big_quiet_on
      go_big_quiet_want; apply quiet_value; (· (intro w' hw; go_simp; try rfl)); simp only [Act.put, List.setIfInBounds_toArray, List.set_cons_succ, List.set_cons_zero]; go_big_quiet_on
      go_big_quiet_want; apply quiet_value; (· (intro w' hw; have c0 := ((HS.out _).1 hw).1; go_simp; try rfl)); simp only [Act.put, List.setIfInBounds_toArray, List.set_cons_succ, List.set_cons_zero]; go_big_quiet_on
      go_big_quiet_want; go_big_quiet_op; go_big_quiet_on
      go_big_quiet_want; go_big_quiet_op; go_big_quiet_on
      go_big_quiet_want; apply quiet_value; (· (intro w' hw; go_simp; try rfl)); simp only [Act.put, List.setIfInBounds_toArray, List.set_cons_succ, List.set_cons_zero]; go_big_quiet_on
      go_big_quiet_want; apply quiet_value; (· (intro w' hw; go_simp; try rfl)); simp only [Act.put, List.setIfInBounds_toArray, List.set_cons_succ, List.set_cons_zero]; go_big_quiet_on
      go_big_quiet_want; apply quiet_value; (· (intro w' hw; have c1 := ((HS.out _).1 hw).2; go_simp; try rfl)); simp only [Act.put, List.setIfInBounds_toArray, List.set_cons_succ, List.set_cons_zero]; go_big_quiet_on
      refine wpQuiet_nil ?_
      refine wpTail_more ?_
      go_wp2_with fail
      refine ThenS.mk ((HS.out _).2 HD.out) ?_
      refine wpTail_last ?_
      go_wp2
      go_roundw
      case rel =>
        refine ⟨k + 1, by omega, by go_num, ?_, (HB.out.drew.setCell (p := ⟨g2, x.1, none⟩) HG2.out _)⟩
        rw [HLX.out]
        have := own_set (w := wr.drew) HO.out x.1 (by omega) (st x.2)
        rwa [show (strC (laid l (ws.take k))).set x.1 (st x.2) = strC ((laid l (ws.take k)).set x.1 x.2) by simp [strC]] at this
      case measure => simp [intOf]; omega
    · obtain rfl : k = ws.length := by omega
      go_wp2
      go_ret
      refine ⟨_, _, rfl, ?_, HB.out⟩
      have := HO.out
      rwa [List.take_length] at this
end Go.Proofs.Ytpgoacemjpobjaa
