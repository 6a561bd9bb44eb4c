/- The walk of ParcelsOnce. Conditions: the script lies in memory. -/
import Derived.Test.YtejoggbebmmlkaaWp
import Derived.Test.YtejoggbebmmlkaaRowW
namespace Go.Proofs.Ytejoggbebmmlkaa
open Go.RowKit Go.ChangeShapes Go.WideShapes Go.ChangeAt
set_option linter.unusedVariables false
set_option linter.unusedSimpArgs false

/-- how often a packet is there. -/
def cnt (q : Pk) (l : List Pk) : Nat := (l.filter fun x => decide (x = q)).length
theorem cnt_append (q : Pk) (l m : List Pk) : cnt q (l ++ m) = cnt q l + cnt q m := by simp [cnt]
theorem cnt_erase (q : Pk) (l : List Pk) (i : Nat) (p : Pk) (h : l[i]? = some p) : cnt q (l.eraseIdx i) + cnt q [p] = cnt q l := by
  have hlt := (List.getElem?_eq_some_iff.1 h).1
  have hd : l = l.take i ++ [p] ++ l.drop (i + 1) := by
    have h2 : l[i] = p := by rw [List.getElem?_eq_getElem hlt] at h; exact Option.some.inj h
    rw [← h2, List.append_assoc, List.singleton_append, ← List.drop_eq_getElem_cons hlt, List.take_append_drop]
  rw [List.eraseIdx_eq_take_drop_succ]
  have h3 := congrArg (cnt q) hd
  rw [cnt_append, cnt_append] at h3
  rw [cnt_append]
  omega
theorem cnt_filter (q : Pk) (f : Pk → Bool) (l : List Pk) : cnt q (l.filter f) ≤ cnt q l := (List.Sublist.filter _ List.filter_sublist).length_le
theorem cnt_mem (q : Pk) (l : List Pk) : 0 < cnt q l ↔ q ∈ l := by
  simp only [cnt, List.length_pos_iff_exists_mem, List.mem_filter, decide_eq_true_eq]
  exact ⟨fun ⟨x, h1, h2⟩ => h2 ▸ h1, fun h => ⟨q, h, rfl⟩⟩
/-- all of ps is in ss. -/
def In (ps ss : List Pk) : Prop := ∀ q, cnt q ps ≤ cnt q ss
theorem In.snoc {ps ss : List Pk} (h : In ps ss) (p : Pk) : In (ps ++ [p]) (ss ++ [p]) := fun q => by rw [cnt_append, cnt_append]; have := h q; omega
theorem In.erase {ps ss : List Pk} (h : In ps ss) {i j : Nat} {p : Pk} (h1 : ps[i]? = some p) (h2 : ss[j]? = some p) : In (ps.eraseIdx i) (ss.eraseIdx j) := fun q => by
  have a := cnt_erase q ps i p h1
  have b := cnt_erase q ss j p h2
  have := h q
  omega
theorem In.filter {ps ss : List Pk} (h : In ps ss) (f : Pk → Bool) : In (ps.filter f) ss := fun q => Nat.le_trans (cnt_filter q f ps) (h q)
theorem In.mem {ps ss : List Pk} (h : In ps ss) {p : Pk} (hp : p ∈ ps) : p ∈ ss := (cnt_mem p ss).1 (Nat.lt_of_lt_of_le ((cnt_mem p ps).2 hp) (h p))

theorem bytes_inj {a b : ByteArray} (h : a.toList = b.toList) : a = b := by
  rw [ByteArray.toList_eq, ByteArray.toList_eq] at h
  obtain ⟨⟨x⟩⟩ := a
  obtain ⟨⟨y⟩⟩ := b
  simpa using h
theorem neq_end {x p : Pk} {q : Bool} (hq : (!decide (x = p)) = q) (w' : World) : (if x.1 = p.1 then if x.2.1 = p.2.1 then if x.2.2.toList = p.2.2.toList then Result.ok (Next.value (Value.bool false)) w' else Result.ok (Next.value (Value.bool true)) w' else Result.ok (Next.value (Value.bool true)) w' else Result.ok (Next.value (Value.bool true)) w') = Result.ok (Next.value (Value.bool q)) w' := by
  subst hq
  obtain ⟨a, b, c⟩ := x
  obtain ⟨a', b', c'⟩ := p
  by_cases h1 : a = a'
  · by_cases h2 : b = b'
    · by_cases h3 : c.toList = c'.toList
      · have := bytes_inj h3; simp [h1, h2, this]
      · have : c ≠ c' := fun e => h3 (by rw [e])
        simp [h1, h2, h3, this]
    · simp [h1, h2]
  · simp [h1]

theorem ownw_cells {w : World} {base : Nat} {e : TypeId} {vv : Value} {l : List Pk} (h : OwnW w base e 3 vv l.length (cellsOf l)) (k : Nat) (p : Pk) (hk : l[k]? = some p) :
    ∃ g cap, vv = .slice (some ⟨g, 0, none⟩) l.length cap ∧ g < w.heap.size ∧ w.cell? ⟨g, k * 3, none⟩ = some (.int .i64 p.1) ∧ w.cell? ⟨g, k * 3 + 1, none⟩ = some (.int .i64 p.2.1) ∧ w.cell? ⟨g, k * 3 + 2, none⟩ = some (.string p.2.2) := by
  obtain ⟨h0, h1, h2⟩ := cells_get l k p hk
  have hlt := (List.getElem?_eq_some_iff.1 hk).1
  have hL := h.lt
  have hC := fun (g : Nat) (hg : vv.ownBlock = some g) => h.cells hg
  rcases h.2 with ⟨_, he⟩ | ⟨g, cap, cur, rfl, hb, hg, _⟩
  · omega
  · exact ⟨g, cap, rfl, hL g rfl, hC g rfl _ _ h0, hC g rfl _ _ h1, hC g rfl _ _ h2⟩

/-- the relation of the loop. -/
def Rel (W wr : World) (sv : Value) (k : Nat) : Prop := ∃ (v : Value) (ps : List Pk) (M : List (Int × Int)) (ss : List Pk), Net wr W.heap.size (W.heap.size + 1) W.heap.size v ps M ∧ ps.length ≤ 2000 ∧ OwnW wr W.heap.size 27 3 sv ss.length (cellsOf ss) ∧
  ss.length ≤ k ∧ In ps ss ∧ (∀ b, sv.ownBlock = some b → ¬ Of (W.heap.size + 1) W.heap.size v b) ∧ Below W.heap.size W wr

set_option maxRecDepth 100000 in
set_option maxHeartbeats 2000000 in
theorem once_core (W : World) (a0 : Option Addr) (len cap : Nat) (os : List Op6) (hP : OpsAt W a0 len os) (hm : len ≤ maxLen) :
    Calls Try.prog 5 #[.slice a0 len cap] W fun e W' => e = .returned (.bool true) ∧ Below W.heap.size W W' := by
  unfold maxLen at hm
  have C0 := Lib.hid (new_net W)
  have HP := Lib.hid hP
  clear hP
  by_cases hbig : len > 500
  · go_enter Try.func5, Try.ntmps5
    go_wp2_with fail
    refine C0.out.mono ?_
    rintro e w1 ⟨rfl, hN1, bel1⟩
    go_wp2_with fail
    refine (alive_any _).mono ?_
    rintro e w2 ⟨rfl, bel2⟩
    go_wp2
    go_ret
    exact ⟨rfl, bel1.trans (bel2.mono bel1.size)⟩
  · go_enter Try.func5, Try.ntmps5
    go_wp2_with fail
    refine C0.out.mono ?_
    rintro e w1 ⟨rfl, hN1, bel1⟩
    have HN1 := Lib.hid hN1
    have HB1 := Lib.hid bel1
    have hl1 := hN1.box.lt
    clear hN1 bel1 C0
    go_wp2
    go_loopw [4, 25] (fun sv i wr => ∃ k : Nat, k ≤ len ∧ i = .int .i64 k ∧ Rel W wr sv k) (fun _ i _ => len - (intOf i).toNat)
    case atStart => exact ⟨0, Nat.zero_le _, rfl, _, [], [], [], HN1.out, by simp, OwnW.nil _ _ _ _, Nat.le_refl _, fun q => Nat.le_refl _, by simp [Value.ownBlock], HB1.out⟩
    case round =>
      obtain ⟨k, hk, rfl, hR⟩ := hrel
      obtain ⟨v, ps, M, ss, hN, hps, hS, hsk, hin, hdis, hbel⟩ := hR
      obtain ⟨sad, sc, rfl, hsc⟩ := hS.shape
      have HN := Lib.hid hN
      have HB := Lib.hid hbel
      have HSS := Lib.hid hS
      have HIN := Lib.hid hin
      have HDI := Lib.hid hdis
      clear hS hin hdis
      by_cases hlt : k < len
      · obtain ⟨bb, off, o, rfl, ho, hbb, d0, d1, d2, d3, d4, d5⟩ := HP.out.get k hlt
        rw [← hbel.cell (p := ⟨bb, _, none⟩) hbb] at d0 d1 d2 d3 d4 d5
        have hbr : bb < wr.heap.size := Nat.lt_of_lt_of_le hbb hbel.size
        obtain ⟨kd, ok, oj, p⟩ := o
        simp only at d0 d1 d2 d3 d4 d5
        clear ho
        have hB1 := Lib.hid (HB.out.alloc HB.out.size (.cells #[.int .i64 kd, .int .i64 ok, .int .i64 oj, .int .i64 p.1, .int .i64 p.2.1, .string p.2.2] 37))
        have hN1 := Lib.hid (HN.out.alloc (.cells #[.int .i64 kd, .int .i64 ok, .int .i64 oj, .int .i64 p.1, .int .i64 p.2.1, .string p.2.2] 37))
        have hS1 := Lib.hid (HSS.out.alloc (.cells #[.int .i64 kd, .int .i64 ok, .int .i64 oj, .int .i64 p.1, .int .i64 p.2.1, .string p.2.2] 37))
        have hX1 := Lib.hid (Box.new wr 37 #[.int .i64 kd, .int .i64 ok, .int .i64 oj, .int .i64 p.1, .int .i64 p.2.1, .string p.2.2])
        clear hN hbel
        by_cases h2 : kd = 2
        · have q2 : (kd == 2) = true := by simpa using h2
          clear h2
          go_wp2
          go_roundw
          case rel => exact ⟨k + 1, by omega, by go_num, v, ps, M, ss, hN1.out, hps, hS1.out, by omega, HIN.out, HDI.out, hB1.out⟩
          case measure => simp [intOf]; omega
        · have q2 : (kd == 2) = false := by simpa using h2
          have C1 := Lib.hid (does_any ⟨kd, ok, oj, p⟩ hN1.out hB1.out.size hps)
          obtain ⟨r, hr⟩ : ∃ r, r = stepP ⟨kd, ok, oj, p⟩ ps M := ⟨_, rfl⟩
          have hrl := step_len (M := M) ⟨kd, ok, oj, p⟩ hps
          rw [← hr] at C1 hrl
          obtain ⟨⟨rp, ris⟩, rps, rM⟩ := r
          simp only at C1 hrl
          have HR := Lib.hid hr
          unfold ov pv at C1
          simp only at C1
          clear hr h2
          go_wp2_with fail
          refine C1.out.mono ?_
          rintro e w2 ⟨rfl, v2, hN2, g2⟩
          have HN2 := Lib.hid hN2
          have HB2 := Lib.hid (g2.below hB1.out (Nat.le_refl _) HN.out.of_ge)
          have HX2 := Lib.hid (hX1.out.touch g2.touch (fun hk => by have := HN.out.of_lt _ hk; omega))
          have HS2 := Lib.hid (hS1.out.touch g2.touch HDI.out)
          have HD2 : Hid (∀ b, (Value.slice sad ss.length sc).ownBlock = some b → ¬ Of (W.heap.size + 1) W.heap.size v2 b) := fun b hb ho => by
            rcases g2.ofs b ho with h1 | h1
            · exact HDI.out b hb h1
            · have := HSS.out.lt b hb; simp at h1; omega
          have x0 : w2.cell? ⟨wr.heap.size, 0, none⟩ = some (.int .i64 kd) := HX2.out.cell 0
          have x3 : w2.cell? ⟨wr.heap.size, 3, none⟩ = some (.int .i64 p.1) := HX2.out.cell 3
          have x4 : w2.cell? ⟨wr.heap.size, 4, none⟩ = some (.int .i64 p.2.1) := HX2.out.cell 4
          have x5 : w2.cell? ⟨wr.heap.size, 5, none⟩ = some (.string p.2.2) := HX2.out.cell 5
          have hw2 := HX2.out.lt
          clear hN2 g2 C1 d0 d1 d2 d3 d4 d5 hN1 hB1 hS1 hX1
          have HN3 := Lib.hid (HN2.out.alloc (.cells #[.int .i64 rp.1, .int .i64 rp.2.1, .string rp.2.2] 27))
          have HB3 := Lib.hid (HB2.out.alloc HB2.out.size (.cells #[.int .i64 rp.1, .int .i64 rp.2.1, .string rp.2.2] 27))
          have HS3 := Lib.hid (HS2.out.alloc (.cells #[.int .i64 rp.1, .int .i64 rp.2.1, .string rp.2.2] 27))
          by_cases h0 : kd = 0
          · have q0 : (kd == 0) = true := by simpa using h0
            have q1 : (kd == 1) = false := by simp [h0]
            have q1' : (kd != 1) = true := by simp [h0]
            have hst : ris = sendOk ps M p ∧ rps = sendPs ps M p := by have := HR.out; simp [stepP, h0] at this; exact ⟨this.1.2, this.2.1⟩
            have HST := Lib.hid hst
            clear h0 hst
            cases ris
            · go_wp2
              go_roundw
              case rel =>
                obtain ⟨e1, e2⟩ := HST.out
                have e3 : rps = ps := by rw [e2, sendPs, ← e1]; rfl
                exact ⟨k + 1, by omega, by go_num, v2, rps, rM, ss, HN3.out, hrl, HS3.out, by omega, e3 ▸ HIN.out, HD2.out, HB3.out⟩
              case measure => simp [intOf]; omega
            · have hsx := src3 (w2.alloc (.cells #[.int .i64 rp.1, .int .i64 rp.2.1, .string rp.2.2] 27)) p
              simp only [World.size_alloc] at hsx
              have HSX := Lib.hid hsx
              clear hsx
              have HS4 := Lib.hid (HS3.out.alloc (.cells #[.int .i64 p.1, .int .i64 p.2.1, .string p.2.2] 27))
              have HSZ := Lib.hid (show W.heap.size ≤ ((w2.alloc (.cells #[.int .i64 rp.1, .int .i64 rp.2.1, .string rp.2.2] 27)).alloc (.cells #[.int .i64 p.1, .int .i64 p.2.1, .string p.2.2] 27)).heap.size by have := HB2.out.size; simp; omega)
              obtain ⟨i0, hi, hz0, hz1, hz2⟩ := info_parts row27
              have hz : i0.zero = some zeroPk := hz0
              have HI := Lib.hid hi
              have HZ := Lib.hid hz
              clear hz0 hi hz
              go_wp2_with (at_builtin; refine wpList_appendW rfl (.tmp 44) (.tmp 47) 22 rfl W.heap.size 27 i0 zeroPk 3 32 Try.underlying22 HI.out HZ.out hz1 hz2 rfl (by decide) _ _ _ rfl HS4.out _ _ _ _ rfl HSX.out (by unfold maxLen; omega) (by omega) HSZ.out ?_; intro v4 w4 own4 g4 at4; obtain ⟨ad4, c4, rfl, hc4⟩ := own4.shape; have y0 : w4.cell? ⟨wr.heap.size, 0, none⟩ = some (.int .i64 kd) := ((HX2.out.alloc _).alloc _).grown g4 (fun e => by have := HSS.out.lt _ e.symm; omega) |>.cell 0)
              go_roundw
              case rel =>
                obtain ⟨e1, e2⟩ := HST.out
                have e3 : rps = ps ++ [p] := by rw [e2, sendPs, ← e1]; rfl
                have hdd : ∀ b, some b = (Value.slice sad ss.length sc).ownBlock → ¬ Of (W.heap.size + 1) W.heap.size v2 b := fun b hb => HD2.out b hb.symm
                refine ⟨k + 1, by omega, by go_num, v2, rps, rM, ss ++ [p], (HN3.out.alloc _).stays (fun b hb ho => g4.block b hb (fun e => hdd b e ho)), hrl, ?_, by simp; omega, e3 ▸ HIN.out.snoc p, fun b hb ho => ?_, ?_⟩
                · rw [cells_snoc, List.length_append]; exact own4
                · rcases at4 with h | h
                  · exact HD2.out b (h ▸ hb) ho
                  · rw [h] at hb
                    have := (HN3.out.alloc (.cells #[.int .i64 p.1, .int .i64 p.2.1, .string p.2.2] 27)).of_lt b ho
                    have hb2 : b = ((w2.alloc (.cells #[.int .i64 rp.1, .int .i64 rp.2.1, .string rp.2.2] 27)).alloc (.cells #[.int .i64 p.1, .int .i64 p.2.1, .string p.2.2] 27)).heap.size := by simpa using hb.symm
                    omega
                · exact (HB3.out.alloc HB3.out.size _).grown g4 HSZ.out (fun b hb => HSS.out.ge b hb)
              case measure => simp [intOf]; omega
          · have q0 : (kd == 0) = false := by simpa using h0
            by_cases h1 : kd = 1
            · have q1 : (kd == 1) = true := by simpa using h1
              have q1' : (kd != 1) = false := by simp [h1]
              have hst : ris = (getI ps ok).isSome ∧ rp = (getI ps ok).getD zp ∧ rps = eraseI ps ok := by have := HR.out; simp [stepP, h1] at this; exact ⟨this.1.2, this.1.1, this.2.1⟩
              have HST := Lib.hid hst
              clear h0 h1 hst
              cases ris
              · go_wp2
                go_roundw
                case rel =>
                  obtain ⟨e1, e2, e4⟩ := HST.out
                  have e3 : rps = ps := by rw [e4, eraseI, ← e1]; rfl
                  exact ⟨k + 1, by omega, by go_num, v2, rps, rM, ss, HN3.out, hrl, HS3.out, by omega, e3 ▸ HIN.out, HD2.out, HB3.out⟩
                case measure => simp [intOf]; omega
              · obtain ⟨i, hi1, hi2⟩ : ∃ i : Nat, ps[i]? = some rp ∧ rps = ps.eraseIdx i := by
                  obtain ⟨e1, e2, e4⟩ := HST.out
                  cases hg : getI ps ok with
                  | none => rw [hg] at e1; cases e1
                  | some y =>
                    rw [hg] at e2
                    obtain ⟨i, h1, h2⟩ := getI_some hg
                    refine ⟨i, by rw [h2, e2]; rfl, ?_⟩
                    rw [e4, eraseI, hg, h1]
                    rfl
                have hmem : rp ∈ ss := HIN.out.mem (List.mem_of_getElem? hi1)
                obtain ⟨t, ht⟩ : ∃ t, t = ss.findIdx fun x => decide (x = rp) := ⟨_, rfl⟩
                have htl : t < ss.length := by rw [ht, List.findIdx_lt_length]; exact ⟨rp, hmem, by simp⟩
                have hbef : ∀ j, j < t → ∀ x, ss[j]? = some x → x ≠ rp := fun j hj x hx => by
                  have h1 := List.not_of_lt_findIdx (p := fun x => decide (x = rp)) (xs := ss) (i := j) (by rw [← ht]; exact hj)
                  have h2 : ss[j] = x := by rw [List.getElem?_eq_getElem (by omega)] at hx; exact Option.some.inj hx
                  rw [h2] at h1
                  simpa using h1
                have hat : ss[t]? = some rp := by
                  have h1 := List.findIdx_getElem (p := fun x => decide (x = rp)) (xs := ss) (w := by rw [← ht]; exact htl)
                  simp only [← ht, decide_eq_true_eq] at h1
                  rw [List.getElem?_eq_getElem htl, h1]
                have HI1 := Lib.hid hi1
                have HI2 := Lib.hid hi2
                have HBEF := Lib.hid hbef
                have HAT := Lib.hid hat
                obtain ⟨g, cc, he, hgl0, _⟩ := ownw_cells HS3.out t rp hat
                obtain ⟨rfl, rfl⟩ : sad = some ⟨g, 0, none⟩ ∧ sc = cc := by simpa using he
                have HX3 := Lib.hid (Box.new w2 27 #[.int .i64 rp.1, .int .i64 rp.2.1, .string rp.2.2])
                have HWW := Lib.hid (show w2.heap.size < (w2.alloc (.cells #[.int .i64 rp.1, .int .i64 rp.2.1, .string rp.2.2] 27)).heap.size by simp)
                clear hi1 hi2 hmem ht hbef hat he
                go_wp2
                generalize w2.alloc (.cells #[.int .i64 rp.1, .int .i64 rp.2.1, .string rp.2.2] 27) = w3 at HN3 HB3 HS3 HX3 HWW hgl0 ⊢
                obtain ⟨wo, rfl⟩ : ∃ wo : World, wo = wr := ⟨_, rfl⟩
                go_loopw [9] (fun i wq => ∃ j : Nat, i = .int .i64 j ∧ j ≤ t ∧ Below w3.heap.size w3 wq) (fun i _ => t - (intOf i).toNat)
                case atStart => exact ⟨0, rfl, Nat.zero_le _, Below.refl _ _⟩
                case round =>
                  obtain ⟨j, rfl, hj, hbq⟩ := hrel
                  have hjl : (j : Int) < (ss.length : Int) := by omega
                  have HSq := Lib.hid (HS3.out.below hbq (Nat.le_refl _))
                  have HXq := Lib.hid (HX3.out.below hbq HX3.out.lt)
                  have HBq := Lib.hid hbq
                  obtain ⟨x, hx⟩ : ∃ x, ss[j]? = some x := ⟨_, List.getElem?_eq_getElem (by omega)⟩
                  obtain ⟨g', c', he, hgl, e0, e1, e2⟩ := ownw_cells HSq.out j x hx
                  obtain ⟨rfl, rfl⟩ : g = g' ∧ sc = c' := by simpa using he
                  obtain ⟨q, hq⟩ : ∃ q, (!decide (x = rp)) = q := ⟨_, rfl⟩
                  have HQ := Lib.hid hq
                  have HX0 := Lib.hid hx
                  clear hbq hx he hq
                  go_wp2
                  refine wp_region_below (B := wr.heap.size) (w0 := wr) (by kernel_rfl) (by kernel_rfl) (Below.refl _ _) ?_
                  go_big_quiet_want; go_big_quiet_op; go_big_quiet_on
                  go_big_quiet_want; go_big_quiet_op; go_big_quiet_on
                  go_big_quiet_want; apply quiet_value; (· (intro w' hw; go_simp; try rfl)); simp only [Act.put, List.setIfInBounds_toArray, List.set_cons_succ, List.set_cons_zero]; go_big_quiet_on
                  go_big_quiet_want; apply quiet_value; (· (intro w' hw; have hjl2 := hjl; go_simp; try rfl)); simp only [Act.put, List.setIfInBounds_toArray, List.set_cons_succ, List.set_cons_zero]; go_big_quiet_on
                  go_big_quiet_want; go_big_quiet_op; go_big_quiet_on
                  go_big_quiet_want; go_big_quiet_op; go_big_quiet_on
                  go_big_quiet_want; go_big_quiet_op; go_big_quiet_on
                  go_big_quiet_want; apply quiet_value; (· (intro w' hw; go_simp; try rfl)); simp only [Act.put, List.setIfInBounds_toArray, List.set_cons_succ, List.set_cons_zero]; go_big_quiet_on
                  go_big_quiet_want; apply quiet_value; (· (intro w' hw; have c0 : w'.cell? ⟨g, j * 3, none⟩ = some (.int .i64 x.1) := (hw.cell (p := ⟨g, _, none⟩) hgl).trans e0; have c1 : w'.cell? ⟨g, j * 3 + 1, none⟩ = some (.int .i64 x.2.1) := (hw.cell (p := ⟨g, _, none⟩) hgl).trans e1; have c2 : w'.cell? ⟨g, j * 3 + 2, none⟩ = some (.string x.2.2) := (hw.cell (p := ⟨g, _, none⟩) hgl).trans e2; go_simp; try rfl)); simp only [Act.put, List.setIfInBounds_toArray, List.set_cons_succ, List.set_cons_zero]; go_big_quiet_on
                  go_big_quiet_want; apply quiet_value; (· (intro w' hw; have c0 : w'.cell? ⟨w2.heap.size, 0, none⟩ = some (.int .i64 rp.1) := (HXq.out.below hw HXq.out.lt).cell 0; have c1 : w'.cell? ⟨w2.heap.size, 1, none⟩ = some (.int .i64 rp.2.1) := (HXq.out.below hw HXq.out.lt).cell 1; have c2 : w'.cell? ⟨w2.heap.size, 2, none⟩ = some (.string rp.2.2) := (HXq.out.below hw HXq.out.lt).cell 2; go_simp; try rfl)); simp only [Act.put, List.setIfInBounds_toArray, List.set_cons_succ, List.set_cons_zero]; go_big_quiet_on
                  go_big_quiet_want; apply quiet_value (v := .bool q); (· (intro w' hw; go_simp; exact neq_end HQ.out w')); simp only [Act.put, List.setIfInBounds_toArray, List.set_cons_succ, List.set_cons_zero]; go_big_quiet_on
                  go_big_quiet_want; apply quiet_value; (· (intro w' hw; go_simp; try rfl)); simp only [Act.put, List.setIfInBounds_toArray, List.set_cons_succ, List.set_cons_zero]; go_big_quiet_on
                  refine wpQuiet_nil ?_
                  intro w5 hb5
                  rcases Nat.lt_or_ge j t with hjt | hjt
                  · have hqt : q = true := by
                      have h1 := HBEF.out j hjt x HX0.out
                      rw [← HQ.out]; simpa using h1
                    subst hqt
                    have HBF := Lib.hid (HBq.out.trans (hb5.mono HBq.out.size))
                    clear hb5 e0 e1 e2
                    go_wp2
                    go_roundw
                    case rel => exact ⟨j + 1, by go_num, by omega, HBF.out⟩
                    case measure => simp [intOf]; omega
                  · obtain rfl : j = t := by omega
                    have hqt : q = false := by
                      have h1 := HX0.out
                      rw [HAT.out] at h1
                      rw [← HQ.out]
                      simpa using (Option.some.inj h1).symm
                    subst hqt
                    have HBF := Lib.hid (HBq.out.trans (hb5.mono HBq.out.size))
                    have HSF := Lib.hid (HS3.out.below HBF.out (Nat.le_refl _))
                    have HNF := Lib.hid (HN3.out.below HBF.out (Nat.le_refl _))
                    have HBW := Lib.hid (HB3.out.trans (HBF.out.mono HB3.out.size))
                    have hne : ((j : Int) == (ss.length : Int)) = false := by simp; omega
                    have hcc : sc ≤ maxLen := by
                      rcases HSF.out.2 with ⟨h0, _⟩ | ⟨g', c', cur, he, _, _, _, h, _⟩
                      · cases h0
                      · have : sc = c' := by injection he
                        omega
                    have hcm : sc ≤ 9223372036854775807 := by unfold maxLen at hcc; omega
                    obtain ⟨qq, hqq⟩ : ∃ qq, ss.length = j + 1 + qq := ⟨ss.length - (j + 1), by omega⟩
                    obtain ⟨ad, had⟩ : ∃ ad : Addr, ad = (if sc = j + 1 then ⟨g, 0, none⟩ else ⟨g, 0 + (j + 1) * 3, none⟩) := ⟨_, rfl⟩
                    have s1 : ∀ w : World, (Instr.sliceAt 22 (.slice (some ⟨g, 0, none⟩) ss.length sc) none (some (.int .i64 (j : Int))) (some (.int .i64 (j : Int)))).run Try.prog w = .ok (.slice (some ⟨g, 0, none⟩) j j) w := fun w => cut_hm elem22 size22 g 0 ss.length sc w j j (Nat.le_refl _) (by omega)
                    have s2 : ∀ w : World, (Instr.sliceAt 22 (.slice (some ⟨g, 0, none⟩) ss.length sc) (some (.int .i64 ((j : Int) + 1))) none none).run Try.prog w = .ok (.slice (some ad) qq (sc - (j + 1))) w := fun w => by
                      have := cut_l elem22 size22 g 0 ss.length sc w (j + 1) (by omega)
                      rw [← had, show ss.length - (j + 1) = qq by omega] at this
                      simpa using this
                    have hsrc : Src w5.drew (some ad) qq 3 ((cellsOf ss).drop ((j + 1) * 3)) := by
                      have hl := cells_len ss
                      refine ⟨by rw [List.length_drop, hl]; omega, fun u hu => cells_one ss u (List.mem_of_mem_drop hu), ?_⟩
                      rcases Nat.eq_zero_or_pos qq with h0 | h0
                      · exact .inl h0
                      · refine .inr ⟨_, rfl, fun i u hu => ?_⟩
                        rw [had, if_neg (by omega), Addr.add_lit]
                        rw [List.getElem?_drop] at hu
                        have := HSF.out.cells (g := g) rfl _ _ hu
                        rw [show 0 + (j + 1) * 3 + i = (j + 1) * 3 + i by omega]
                        exact this
                    have HSRC := Lib.hid hsrc
                    have HCUT := Lib.hid ((HSF.out.drew).cut j (by omega))
                    have HQQ := Lib.hid hqq
                    have HWR := Lib.hid (show IntKind.i64.wrap ((j : Int) + 1) = (j : Int) + 1 from IntWalk.i64_in _ (by omega))
                    clear hb5 e0 e1 e2 had hsrc hcc hqq
                    go_wp2
                    refine wp_region_phase (fun _ => True) [true, true, true, true, true, true, true, true, false, false] 9 _ _ _ (by kernel_rfl) rfl rfl (by kernel_rfl) rfl rfl (fun _ _ _ _ _ h => h) (trivial) ?_
                    intro S HS
                    simp only [taken, leftOut]
                    go_big_quiet_want; go_big_quiet_op; go_big_quiet_on
                    go_big_quiet_want; go_big_quiet_op; go_big_quiet_on
                    go_big_quiet_want; go_big_quiet_op; go_big_quiet_on
                    go_big_quiet_want; apply quiet_value; (· (intro w' hw; go_simp; try rfl)); simp only [Act.put, List.setIfInBounds_toArray, List.set_cons_succ, List.set_cons_zero]; go_big_quiet_on
                    go_big_quiet_want; go_big_quiet_op; go_big_quiet_on
                    go_big_quiet_want; go_big_quiet_op; go_big_quiet_on
                    go_big_quiet_want; apply quiet_value; (· (intro w' hw; have hwr := HWR.out; go_simp; try rfl)); simp only [Act.put, List.setIfInBounds_toArray, List.set_cons_succ, List.set_cons_zero]; go_big_quiet_on
                    go_big_quiet_want; apply quiet_value; (· (intro w' hw; go_simp; try rfl)); simp only [Act.put, List.setIfInBounds_toArray, List.set_cons_succ, List.set_cons_zero]; go_big_quiet_on
                    refine wpQuiet_nil ?_
                    refine wpTail_more ?_
                    obtain ⟨i0, hi, hz0, hz1, hz2⟩ := info_parts row27
                    have hz : i0.zero = some zeroPk := hz0
                    clear hz0
                    go_wp2_with (at_builtin; refine wpList_appendW rfl (.tmp 77) (.tmp 81) 22 rfl W.heap.size 27 i0 zeroPk 3 32 Try.underlying22 hi hz hz1 hz2 rfl (by decide) _ _ _ rfl HCUT.out _ _ _ _ rfl HSRC.out ?c2 ?c3 ?c4 ?_)
                    case c2 => have := HQQ.out; unfold maxLen; omega
                    case c3 => have := HQQ.out; omega
                    case c4 => have := HBW.out.size; exact this
                    intro v6 w6 own6 g6 at6
                    obtain ⟨ad6, c6, rfl, hc6⟩ := own6.shape
                    go_wp2_with fail
                    refine ThenS.mk ((HS.out _).2 trivial) ?_
                    refine wpTail_last ?_
                    go_wp2
                    go_roundw
                    case rel =>
                      have hdd : ∀ b, some b = (Value.slice (some ⟨g, 0, none⟩) j j).ownBlock → ¬ Of (W.heap.size + 1) W.heap.size v2 b := fun b hb => HD2.out b hb.symm
                      have hl2 : (ss.eraseIdx j).length = j + qq := by have := HQQ.out; rw [List.length_eraseIdx, if_pos htl]; omega
                      refine ⟨k + 1, by omega, by go_num, v2, rps, rM, ss.eraseIdx j, HNF.out.drew.stays (fun b hb ho => g6.block b hb (fun e => hdd b e ho)), hrl, ?_, ?_, ?_, fun b hb ho => ?_, ?_⟩
                      · rw [hl2, List.eraseIdx_eq_take_drop_succ, cells_append, ← cells_take, ← cells_drop]; exact own6
                      · rw [hl2]; have := HQQ.out; omega
                      · rw [HI2.out]; exact HIN.out.erase HI1.out HAT.out
                      · rcases at6 with h | h
                        · exact HD2.out b (h ▸ hb) ho
                        · rw [h] at hb
                          have := HNF.out.of_lt b ho
                          have hb2 : b = w5.heap.size := by simpa using hb.symm
                          omega
                      · exact (HBW.out.drew).grown g6 HBW.out.size (fun b hb => HSF.out.ge b hb)
                    case measure => simp [intOf]; omega
            · have q1 : (kd == 1) = false := by simpa using h1
              have q1' : (kd != 1) = true := by simpa using h1
              have hin2 : In rps ss := by
                have h3 := HR.out
                have h2 : kd ≠ 2 := by simpa using q2
                simp only [stepP, h0, h1, h2, if_false] at h3
                split at h3
                · simp only [Prod.mk.injEq] at h3; rw [h3.2.1]; exact HIN.out.filter _
                · split at h3 <;> (simp only [Prod.mk.injEq] at h3; rw [h3.2.1]; exact HIN.out)
              have HI2 := Lib.hid hin2
              have hris : ris = false := by
                have h3 := HR.out
                have h2 : kd ≠ 2 := by simpa using q2
                simp only [stepP, h0, h1, h2, if_false] at h3
                split at h3
                · simp only [Prod.mk.injEq] at h3; exact h3.1.2
                · split at h3 <;> (simp only [Prod.mk.injEq] at h3; exact h3.1.2)
              subst hris
              clear h0 h1 hin2
              go_wp2
              go_roundw
              case rel => exact ⟨k + 1, by omega, by go_num, v2, rps, rM, ss, HN3.out, hrl, HS3.out, by omega, HI2.out, HD2.out, HB3.out⟩
              case measure => simp [intOf]; omega
      · clear hN hbel
        go_wp2_with fail
        refine (alive_any _).mono ?_
        rintro e w2 ⟨rfl, b2⟩
        go_wp2
        go_ret
        exact ⟨rfl, HB.out.trans (b2.mono HB.out.size)⟩

theorem parcelsOnce_walk {H : Type} {enc : TypeId × Value → H} {base : Nat} {p0 : List MemPlace} (W : World) (v0 : Value) (d0 : DataW H) (hv : Value.okWide Try.prog W .any base 35 v0) (h : DataW.Trod enc Try.prog W 0 (fun _ => true) true 35 v0 d0 p0) (_b : ∀ n ∈ d0.weights Try.prog 35, n ≤ 140737488351232) :
    Calls Try.prog 5 #[v0] W fun e W' => e = .returned (.bool true) ∧ Below W.heap.size W W' := by
  obtain ⟨a, len, cap, os, rfl, hP, h1, h2⟩ := open_ops hv h
  exact once_core W a len cap os hP (Nat.le_trans h1 h2)
end Go.Proofs.Ytejoggbebmmlkaa
