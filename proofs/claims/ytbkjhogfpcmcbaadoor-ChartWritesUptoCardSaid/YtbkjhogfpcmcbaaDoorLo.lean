/- chart: the document's Decode. Conditions: the text has at most 1048576 bytes. -/
import Derived.Test.YtbkjhogfpcmcbaaDoorLm
import Derived.Test.YtbkjhogfpcmcbaaDoorLn
import Derived.Test.YtbkjhogfpcmcbaaDoorLk
namespace Go.Proofs.YtbkjhogfpcmcbaaDoor
open Go Go.RowKit Zn
set_option linter.unusedVariables false
set_option linter.unusedSimpArgs false
variable {w w' : World}
def seg (l : Nm) (a b : Nat) : Nm := (l.drop a).take (b - a)
theorem seg_next {l : Nm} {a b : Nat} {c : UInt8} (h : l[b]? = some c) (hab : a ≤ b) : seg l a (b + 1) = seg l a b ++ [c] := by
  unfold seg
  rw [show b + 1 - a = (b - a) + 1 by omega, List.take_add_one, List.getElem?_drop, show a + (b - a) = b by omega, h]; rfl
theorem seg_nil (l : Nm) (a : Nat) : seg l a a = [] := by unfold seg; rw [Nat.sub_self]; rfl
theorem drop_at {l : Nm} {k : Nat} {c : UInt8} (h : l[k]? = some c) : l.drop k = c :: l.drop (k + 1) := by
  have hlt := (List.getElem?_eq_some_iff.1 h).1
  rw [List.drop_eq_getElem_cons hlt]
  congr 1
  rw [List.getElem?_eq_getElem hlt] at h
  exact Option.some.inj h
/-- where the reading stands. -/
def Scanned (l : Nm) (k fr : Nat) (bk : Int) (ms : List Mt) : Prop := fr ≤ k ∧ ((bk = -1 ∧ scan [] none l = (scan (seg l fr k) none (l.drop k)).map (ms ++ ·)) ∨ ∃ bl : Nat, bk = bl ∧ fr ≤ bl ∧ bl < k ∧ scan [] none l = (scan (seg l fr bl) (some (seg l (bl + 1) k)) (l.drop k)).map (ms ++ ·))
theorem sc_start (l : Nm) : Scanned l 0 0 (-1) [] := ⟨Nat.le_refl _, .inl ⟨rfl, by rw [seg_nil, List.drop_zero]; cases scan [] none l <;> rfl⟩⟩
theorem sc_blank {l : Nm} {k fr : Nat} {ms : List Mt} (hc : l[k]? = some 32) (h : Scanned l k fr (-1) ms) : Scanned l (k + 1) fr (k : Nat) ms := by
  obtain ⟨h1, h2⟩ := h
  rcases h2 with ⟨_, h2⟩ | ⟨bl, h3, _⟩
  · refine ⟨by omega, .inr ⟨k, rfl, h1, by omega, ?_⟩⟩
    rw [h2, drop_at hc, scan, if_neg (by decide), if_pos rfl, seg_nil]
  · omega
theorem sc_bad {l : Nm} {k fr : Nat} {ms : List Mt} (hc : l[k]? = some 10) (h : Scanned l k fr (-1) ms) : rdecO l = none := by
  obtain ⟨h1, h2⟩ := h
  rcases h2 with ⟨_, h2⟩ | ⟨bl, h3, _⟩
  · unfold rdecO
    rw [h2, drop_at hc, scan, if_pos rfl]; rfl
  · omega
theorem sc_other {l : Nm} {k fr : Nat} {ms : List Mt} {c : UInt8} (hc : l[k]? = some c) (h1 : c ≠ 10) (h2 : c ≠ 32) (h : Scanned l k fr (-1) ms) : Scanned l (k + 1) fr (-1) ms := by
  obtain ⟨h3, h4⟩ := h
  rcases h4 with ⟨_, h4⟩ | ⟨bl, h5, _⟩
  · refine ⟨by omega, .inl ⟨rfl, ?_⟩⟩
    rw [h4, drop_at hc, scan, if_neg h1, if_neg h2, ← seg_next hc h3]
  · omega
theorem sc_path {l : Nm} {k fr bl : Nat} {ms : List Mt} {c : UInt8} (hc : l[k]? = some c) (h1 : c ≠ 10) (h : Scanned l k fr (bl : Nat) ms) : Scanned l (k + 1) fr (bl : Nat) ms := by
  obtain ⟨h3, h4⟩ := h
  rcases h4 with ⟨h5, _⟩ | ⟨b2, h5, h6, h7, h8⟩
  · omega
  · obtain rfl : bl = b2 := by omega
    refine ⟨by omega, .inr ⟨bl, rfl, h6, by omega, ?_⟩⟩
    rw [h8, drop_at hc, scan, if_neg h1, ← seg_next hc (by omega)]
theorem sc_at {l : Nm} {k fr bl : Nat} {ms : List Mt} (h : Scanned l k fr (bl : Nat) ms) : fr ≤ bl ∧ bl < k := by
  obtain ⟨h3, h4⟩ := h
  rcases h4 with ⟨h5, _⟩ | ⟨b2, h5, h6, h7, h8⟩ <;> omega
theorem sc_row {l : Nm} {k fr bl : Nat} {ms : List Mt} (hc : l[k]? = some 10) (h : Scanned l k fr (bl : Nat) ms) : Scanned l (k + 1) (k + 1) (-1) (ms ++ [⟨⟨(seg l (bl + 1) k).toArray⟩, numV (seg l fr bl)⟩]) := by
  obtain ⟨h3, h4⟩ := h
  rcases h4 with ⟨h5, _⟩ | ⟨b2, h5, h6, h7, h8⟩
  · omega
  · obtain rfl : bl = b2 := by omega
    refine ⟨by omega, .inl ⟨rfl, ?_⟩⟩
    rw [h8, drop_at hc, scan, if_pos rfl, seg_nil]
    cases scan [] none (l.drop (k + 1)) <;> simp
theorem sc_end {l : Nm} {fr : Nat} {bk : Int} {ms : List Mt} (h : Scanned l l.length fr bk ms) : rdecO l = if encO ms = some l then some ms else none := by
  have hs : scan [] none l = some ms := by
    obtain ⟨_, ⟨_, h4⟩ | ⟨bl, _, _, _, h4⟩⟩ := h
    · rw [h4, List.drop_length, scan]; simp
    · rw [h4, List.drop_length, scan]; simp
  unfold rdecO
  rw [hs]
theorem sc_blank_of {l : Nm} {k fr : Nat} {bk : Int} {ms : List Mt} (h : Scanned l k fr bk ms) : bk = -1 ∨ ∃ bl : Nat, bk = bl := by
  obtain ⟨_, ⟨h1, _⟩ | ⟨bl, h1, _⟩⟩ := h
  · exact .inl h1
  · exact .inr ⟨bl, h1⟩
theorem row45 : (Tryd.prog.info? 45).map (fun i => (i.zero, i.size, i.bytes)) = some (some (.agg #[.string ⟨#[]⟩, .int .i64 0]), 2, 24) := by kernel_rfl
theorem src45 (w : World) (x : Mt) : Src (w.alloc (.cells #[.string x.p, .int .i64 x.v] 45)) (some ⟨w.heap.size, 0, none⟩) 1 2 (mc x) :=
  ⟨rfl, by simp [mc, Value.oneCell'], .inr ⟨_, rfl, cell_two_new w _ _ _⟩⟩
theorem own_MsAt45 {base n c : Nat} {a : Option Addr} {ms : List Mt} (h : w.ownsRow base 45 2 (.slice a n c) ms.length (mcells ms)) (hn : n = ms.length) : MsAt w a n ms := by
  refine ⟨by rw [List.length_map, hn], ?_⟩
  rcases h.2 with ⟨_, he⟩ | ⟨g, cap, cur, e, hb, hg, _⟩
  · exact .inl (hn.trans he)
  · right
    have hc := h.cells (g := g) (by rw [e]; rfl)
    have hlt : g < w.heap.size := own_lt h g (by rw [e]; rfl)
    obtain ⟨rfl, _, _⟩ : a = some ⟨g, 0, none⟩ ∧ n = ms.length ∧ c = cap := by simpa using e
    refine ⟨g, 0, rfl, hlt, fun i r hr j u hu => ?_⟩
    rw [List.getElem?_map] at hr
    cases hp : ms[i]? with
    | none => rw [hp] at hr; cases hr
    | some p =>
      rw [hp] at hr
      obtain rfl : mc p = r := by simpa using hr
      have hj : j < 2 := by have := (List.getElem?_eq_some_iff.1 hu).1; simpa [mc] using this
      have := hc (i * 2 + j) u (by rw [mcells_get ms i p hp j hj]; exact hu)
      rw [Addr.add_lit, Nat.zero_add] at this
      rw [Nat.zero_add]
      exact this
set_option maxRecDepth 100000 in
set_option maxHeartbeats 4000000 in
theorem rdecode_any (s : ByteArray) (w : World) (hs : s.size ≤ 1048576) : Calls Tryd.prog 11 #[.string s] w (Decoded (rdecO s.data.toList) w) := by
  obtain ⟨l, hl⟩ : ∃ l, l = s.data.toList := ⟨_, rfl⟩
  rw [← hl]
  have hll : l.length = s.size := by rw [hl]; exact (Lib.size_eq s).symm
  have HL := Lib.hid hl
  have HLL := Lib.hid hll
  obtain ⟨i0, hi, hz0, hz1, hz2⟩ := info_parts row45
  have HI := Lib.hid hi
  have HZZ := Lib.hid hz0
  clear hl hll hi hz0
  go_enter Tryd.func11, Tryd.ntmps11
  go_wp2_with fail
  go_loopw [4, 5, 6, 7] (fun mv fv bv iv wr => ∃ (k fr : Nat) (ms : List Mt), k ≤ s.size ∧ iv = .int .i64 k ∧ fv = .int .i64 fr ∧ (∃ bk : Int, bv = .int .i64 bk ∧ Scanned l k fr bk ms) ∧ wr.ownsRow w.heap.size 45 2 mv ms.length (mcells ms) ∧ 2 * ms.length ≤ fr ∧ (∀ x ∈ ms, x.p.size ≤ 1048576) ∧ Below w.heap.size w wr) (fun _ _ _ iv _ => s.size - (intOf iv).toNat)
  case atStart => exact ⟨0, 0, [], Nat.zero_le _, rfl, rfl, ⟨-1, rfl, sc_start l⟩, World.ownsRow_nil _ _ _ _, Nat.le_refl _, (fun x hx => by cases hx), Below.refl _ _⟩
  case round =>
    obtain ⟨k, fr, ms, hk, rfl, rfl, ⟨bk, rfl, hsc⟩, hown, hml, hsz, hb⟩ := hrel
    obtain ⟨ud, uc, rfl, huc⟩ := own_shape hown
    have HB := Lib.hid hb
    have HSC := Lib.hid hsc
    have HOW := Lib.hid hown
    have HSZ := Lib.hid hsz
    have HML := Lib.hid hml
    have hfk : fr ≤ k := hsc.1
    have hbk := sc_blank_of hsc
    clear hb hsc hown hsz
    by_cases hlt : k < s.size
    · have hb : l[k]? = some (s[k]'hlt) := by rw [HL.out]; exact at_byte s k hlt
      obtain ⟨c, hc⟩ : ∃ c, c = s[k]'hlt := ⟨_, rfl⟩
      have hc' : s[k]'hlt = c := hc.symm
      rw [← hc] at hb
      have HCB := Lib.hid hb
      have hcu : c.toNat < 256 := c.toNat_lt
      have E32 := Lib.hid (show c.toNat = 32 → c = 32 from fun h => UInt8.toNat_inj.1 h)
      have E10 := Lib.hid (show c.toNat = 10 → c = 10 from fun h => UInt8.toNat_inj.1 h)
      clear hb hc
      rcases hbk with rfl | ⟨bl, rfl⟩
      · by_cases h32 : c.toNat = 32
        · have q32 : ((c.toNat : Int) == 32) = true := by rw [h32]; rfl
          have q10 : ((c.toNat : Int) != 10) = true := by rw [h32]; rfl
          have HN := Lib.hid (sc_blank (by rw [HCB.out, E32.out h32]) HSC.out)
          clear h32
          go_wp2_with fail
          go_roundw
          case rel => exact ⟨k + 1, fr, ms, by omega, by go_num, rfl, ⟨k, rfl, HN.out⟩, HOW.out, HML.out, HSZ.out, HB.out⟩
          case measure => simp [intOf]; omega
        · have q32 : ((c.toNat : Int) == 32) = false := by rw [beq_eq_false_iff_ne]; omega
          by_cases h10 : c.toNat = 10
          · have q10 : ((c.toNat : Int) != 10) = false := by rw [h10]; rfl
            have HE := Lib.hid (sc_bad (by rw [HCB.out, E10.out h10]) HSC.out)
            clear h32 h10
            go_wp2_with fail
            exact ret_two rfl rfl (x := .slice none 0 0) (y := .int .i64 200) rfl rfl (Decoded.no HE.out HB.out)
          · have q10 : ((c.toNat : Int) != 10) = true := by rw [bne_iff_ne]; omega
            have HN := Lib.hid (sc_other HCB.out (fun e => h10 (by rw [e]; rfl)) (fun e => h32 (by rw [e]; rfl)) HSC.out)
            clear h32 h10
            go_wp2_with fail
            go_roundw
            case rel => exact ⟨k + 1, fr, ms, by omega, by go_num, rfl, ⟨-1, rfl, HN.out⟩, HOW.out, HML.out, HSZ.out, HB.out⟩
            case measure => simp [intOf]; omega
      · obtain ⟨hb1, hb2⟩ := sc_at HSC.out
        have b0 : decide ((bl : Int) < 0) = false := by rw [decide_eq_false_iff_not]; omega
        by_cases h10 : c.toNat = 10
        · have q32 : ((c.toNat : Int) == 32) = false := by rw [h10]; rfl
          have q10 : ((c.toNat : Int) != 10) = false := by rw [h10]; rfl
          have hnx := sc_row (by rw [HCB.out, E10.out h10]) HSC.out
          have C2 := fun w1 => rnum_any (s.extract fr bl) w1 (by rw [Lib.size_eq, Lib.extract_data, List.length_take, List.length_drop, ← Lib.size_eq]; omega)
          unfold Numd at C2
          have hV : (s.extract fr bl).data.toList = seg l fr bl := by rw [Lib.extract_data, HL.out]; rfl
          rw [hV] at C2
          obtain ⟨nv, hnv⟩ : ∃ nv, nv = numV (seg l fr bl) := ⟨_, rfl⟩
          obtain ⟨P, hP⟩ : ∃ P, P = s.extract (bl + 1) k := ⟨_, rfl⟩
          have hPD : P.data.toList = seg l (bl + 1) k := by rw [hP, Lib.extract_data, HL.out]; rfl
          have hPE : (⟨(seg l (bl + 1) k).toArray⟩ : ByteArray) = P := by
            apply Go.WideShapes.bytes_inj
            rw [hPD]
          have hps : P.size ≤ 1048576 := by rw [Lib.size_eq, hPD]; unfold seg; rw [List.length_take, List.length_drop, HLL.out]; omega
          rw [hPE, ← hnv] at hnx
          rw [← hnv] at C2
          have C2 := Lib.hid C2
          have HNX0 := Lib.hid hnx
          have HNX := Lib.hid (show ∃ bk : Int, (Value.int .i64 (-1)) = .int .i64 bk ∧ Scanned l (k + 1) (k + 1) bk (ms ++ [⟨P, nv⟩]) from ⟨-1, rfl, HNX0.out⟩)
          have HLN := Lib.hid (show 2 * (ms ++ [(⟨P, nv⟩ : Mt)]).length ≤ k + 1 by rw [List.length_append, List.length_singleton]; have := HML.out; omega)
          have HSZ2 := Lib.hid (show ∀ x ∈ ms ++ [(⟨P, nv⟩ : Mt)], x.p.size ≤ 1048576 from fun x hx => by
            rcases List.mem_append.1 hx with hx | hx
            · exact HSZ.out x hx
            · rw [List.mem_singleton] at hx; subst hx; exact hps)
          have HMC := Lib.hid (mcells_snoc ms ⟨P, nv⟩)
          have hw1 : IntKind.i64.wrap ((bl : Int) + 1) = (bl : Int) + 1 := by rw [IntKind.wrap_i64]; omega
          have hbl : bl + 1 ≤ k := by omega
          have hmm : ms.length ≤ 1048576 := by omega
          have hsl1 : ∀ w1, (Instr.slice 9 (.string s) (some (.int .i64 ((bl : Int) + 1))) (some (.int .i64 (k : Int))) none).run Tryd.prog w1 = .ok (.string P) w1 := fun w1 => by
            rw [hP]
            exact (run_slice_string w1 9 s .i64 .i64 ((bl : Int) + 1) (k : Int) Tryd.underlying9 (by omega) (by omega) (by omega)).trans (by rw [show ((bl : Int) + 1).toNat = bl + 1 by omega, Int.toNat_natCast])
          have hsl2 : ∀ w1, (Instr.slice 9 (.string s) (some (.int .i64 (fr : Int))) (some (.int .i64 (bl : Int))) none).run Tryd.prog w1 = .ok (.string (s.extract fr bl)) w1 := fun w1 =>
            (run_slice_string w1 9 s .i64 .i64 (fr : Int) (bl : Int) Tryd.underlying9 (by omega) (by omega) (by omega)).trans (by rw [Int.toNat_natCast, Int.toNat_natCast])
          clear hnx hV hnv hP hPD hPE h10 hml hps
          go_upto_region 12 with (fail)
          refine wp_region_steps (fun _ => True) [(true, 0), (true, 1), (true, 2), (true, 3), (true, 4), (true, 5), (true, 6), (true, 7), (true, 8), (true, 9), (false, 10), (true, 11), (false, 12), (false, 13), (false, 14)] 14 _ _ (by kernel_rfl) rfl (by kernel_rfl) (by kernel_rfl) rfl (fun _ _ _ _ _ h => h) (trivial) ?_
          intro S HS
          simp only [pickS, List.getElem?_cons_zero, List.getElem?_cons_succ]
          refine wpSteps_head ?_
          go_big_quiet_want; go_big_quiet_op; go_big_quiet_on
          refine wpQuiet_nil ?_
          refine wpSteps_head ?_
          go_big_quiet_want; go_big_quiet_op; go_big_quiet_on
          refine wpQuiet_nil ?_
          refine wpSteps_head ?_
          go_big_quiet_want; go_big_quiet_op; go_big_quiet_on
          refine wpQuiet_nil ?_
          refine wpSteps_head ?_
          go_big_quiet_want; apply quiet_value; (· (intro w' hw; go_simp; try rfl)); simp only [Act.put, List.setIfInBounds_toArray, List.set_cons_succ, List.set_cons_zero]; go_big_quiet_on
          refine wpQuiet_nil ?_
          refine wpSteps_head ?_
          go_big_quiet_want; go_big_quiet_op; go_big_quiet_on
          refine wpQuiet_nil ?_
          refine wpSteps_head ?_
          go_big_quiet_want; apply quiet_value (v := .string P); (· (intro w' hw; go_simp; try rfl)); simp only [Act.put, List.setIfInBounds_toArray, List.set_cons_succ, List.set_cons_zero]; go_big_quiet_on
          refine wpQuiet_nil ?_
          refine wpSteps_head ?_
          go_big_quiet_want; go_big_quiet_op; go_big_quiet_on
          refine wpQuiet_nil ?_
          refine wpSteps_head ?_
          go_big_quiet_want; go_big_quiet_op; go_big_quiet_on
          refine wpQuiet_nil ?_
          refine wpSteps_head ?_
          go_big_quiet_want; go_big_quiet_op; go_big_quiet_on
          refine wpQuiet_nil ?_
          refine wpSteps_head ?_
          go_big_quiet_want; apply quiet_value (v := .string (s.extract fr bl)); (· (intro w' hw; go_simp; try rfl)); simp only [Act.put, List.setIfInBounds_toArray, List.set_cons_succ, List.set_cons_zero]; go_big_quiet_on
          refine wpQuiet_nil ?_
          refine wpSteps_more ?_
          go_wp2_with fail
          refine (C2.out _).mono ?_
          rintro e w6 ⟨rfl, b6⟩
          have hb6 : Below wr.heap.size wr w6 := (Below.drew (Below.refl _ _)).trans b6
          have HB6 := Lib.hid (HB.out.trans (hb6.mono HB.out.size))
          have HO6 := Lib.hid (own_below HOW.out hb6)
          have p6 : S w6 := (HS.out _).2 trivial
          clear b6 hb6
          go_wp2_with fail
          refine ThenS.mk p6 ?_
          refine wpSteps_head ?_
          go_big_quiet_want; apply quiet_value; (· (intro w' hw; go_simp; try rfl)); simp only [Act.put, List.setIfInBounds_toArray, List.set_cons_succ, List.set_cons_zero]; go_big_quiet_on
          refine wpQuiet_nil ?_
          refine wpSteps_more ?_
          go_wp2_with fail
          have HB7 := Lib.hid (HB6.out.alloc HB6.out.size (.cells #[.string P, .int .i64 nv] 45))
          have HR := Lib.hid (HO6.out.alloc (.cells #[.string P, .int .i64 nv] 45))
          have HSX := Lib.hid (src45 w6 ⟨P, nv⟩)
          refine ThenS.mk ((HS.out _).2 trivial) ?_
          refine wpSteps_more ?_
          go_wp2_with (at_builtin; refine wpList_append_src rfl (.tmp 31) (.tmp 43) 26 rfl w.heap.size 45 i0 _ 2 24 Tryd.underlying26 HI.out HZZ.out hz1 hz2 rfl (by decide) _ _ _ rfl HR.out _ _ _ _ rfl HSX.out (by unfold maxLen; omega) (by omega) HB7.out.size ?_)
          intro v7 w7 own7 g7
          have HG7 := Lib.hid (HB7.out.grown g7 HB7.out.size (own_ge HR.out))
          have HO7 := Lib.hid own7
          clear own7 g7
          go_wp2_with fail
          refine ThenS.mk ((HS.out _).2 trivial) ?_
          refine wpSteps_last ?_
          go_wp2_with fail
          go_roundw
          case rel => exact ⟨k + 1, k + 1, ms ++ [⟨P, nv⟩], by omega, by go_num, by go_num, HNX.out, by rw [List.length_append, List.length_singleton, HMC.out]; exact HO7.out, HLN.out, HSZ2.out, HG7.out⟩
          case measure => simp [intOf]; omega
        · have q10 : ((c.toNat : Int) != 10) = true := by rw [bne_iff_ne]; omega
          have HN := Lib.hid (sc_path HCB.out (fun e => h10 (by rw [e]; rfl)) HSC.out)
          by_cases h32 : c.toNat = 32
          · have q32 : ((c.toNat : Int) == 32) = true := by rw [h32]; rfl
            clear h10 h32
            go_wp2_with fail
            go_roundw
            case rel => exact ⟨k + 1, fr, ms, by omega, by go_num, rfl, ⟨bl, rfl, HN.out⟩, HOW.out, HML.out, HSZ.out, HB.out⟩
            case measure => simp [intOf]; omega
          · have q32 : ((c.toNat : Int) == 32) = false := by rw [beq_eq_false_iff_ne]; omega
            clear h10 h32
            go_wp2_with fail
            go_roundw
            case rel => exact ⟨k + 1, fr, ms, by omega, by go_num, rfl, ⟨bl, rfl, HN.out⟩, HOW.out, HML.out, HSZ.out, HB.out⟩
            case measure => simp [intOf]; omega
    · obtain rfl : k = s.size := by omega
      have hE := sc_end (by have := HSC.out; rwa [← HLL.out] at this)
      have hat := own_MsAt45 HOW.out rfl
      have C := renc_any ud ms.length uc ms wr hat (fun x hx => Nat.le_trans (HSZ.out x hx) (by omega)) (by omega)
      have HAT := Lib.hid hat
      unfold Encoded at C
      obtain ⟨n, hn⟩ : ∃ n, n = ms.length := ⟨_, rfl⟩
      clear hat hbk
      cases hen : encO ms with
      | none =>
        rw [hen] at C hE
        have HE := Lib.hid (show rdecO l = none from hE)
        have C := Lib.hid C
        rw [← hn] at C ⊢
        clear hE hen hn hml
        go_wp2_with fail
        refine C.out.mono ?_
        rintro e w1 ⟨rfl, b1⟩
        have HB1 := Lib.hid (HB.out.trans (b1.mono HB.out.size))
        clear b1 C
        go_wp2_with fail
        exact ret_two rfl rfl (x := .slice none 0 0) (y := .int .i64 200) rfl rfl (Decoded.no HE.out HB1.out)
      | some t =>
        rw [hen] at C hE
        by_cases htl : t = l
        · have hts : (⟨t.toArray⟩ : ByteArray) = s := by
            apply Go.WideShapes.bytes_inj
            rw [← HL.out]; exact htl
          simp only [hts] at C
          rw [htl, if_pos rfl] at hE
          have HE := Lib.hid hE
          have C := Lib.hid C
          have HN := Lib.hid hn
          rw [← hn] at C ⊢
          clear hE hen hn hml htl hts
          go_wp2_with fail
          refine C.out.mono ?_
          rintro e w1 ⟨rfl, b1⟩
          have HB1 := Lib.hid (HB.out.trans (b1.mono HB.out.size))
          have HA1 := Lib.hid (HAT.out.below b1 (Nat.le_refl _))
          clear b1 C
          go_wp2_with fail
          have hn := HN.out
          subst hn
          exact ret_two rfl rfl (x := .slice ud ms.length uc) (y := .int .i64 0) rfl rfl (Decoded.yes HE.out HA1.out HB1.out)
        · obtain ⟨T, hT⟩ : ∃ T : ByteArray, T = ⟨t.toArray⟩ := ⟨_, rfl⟩
          have qne : (T.toList == s.toList) = false := by
            rw [Lib.toList_data, Lib.toList_data, ← HL.out, hT, beq_eq_false_iff_ne]; exact htl
          simp only [← hT] at C
          rw [if_neg (by simpa using htl)] at hE
          have HE := Lib.hid hE
          have C := Lib.hid C
          rw [← hn] at C ⊢
          clear hE hen hn hml htl hT
          go_wp2_with fail
          refine C.out.mono ?_
          rintro e w1 ⟨rfl, b1⟩
          have HB1 := Lib.hid (HB.out.trans (b1.mono HB.out.size))
          clear b1 C
          go_wp2_with fail
          exact ret_two rfl rfl (x := .slice none 0 0) (y := .int .i64 200) rfl rfl (Decoded.no HE.out HB1.out)
end Go.Proofs.YtbkjhogfpcmcbaaDoor
