/- Scripts of calls on a net; the walk of ParcelsParts. Conditions: the script lies in memory. -/
import Derived.Test.YtejoggbebmmlkaaWo
import Derived.Test.YtejoggbebmmlkaaWi
namespace Go.Proofs.Ytejoggbebmmlkaa
open Go.RowKit Go.ChangeShapes Go.WideShapes Go.ChangeAt
set_option linter.unusedVariables false
set_option linter.unusedSimpArgs false

def oc (o : Op6) : List Value := [.int .i64 o.kd, .int .i64 o.k, .int .i64 o.j, .int .i64 o.p.1, .int .i64 o.p.2.1, .string o.p.2.2]
theorem shape37 {H : Type} {enc : TypeId × Value → H} {W : World} {n : Nat} {r : List Value} {y : DataW H × List MemPlace} (h : DataW.trod enc Try.prog W 0 (fun _ => true) true n 37 r = some y) (hr : r.length = 6) : ∃ o : Op6, r = oc o := by
  obtain ⟨xs, n', _, _, _, hlen, hg⟩ := DataW.trod_struct Try.underlying37 h
  match r, hr with
  | [c0, c1, c2, c3, c4, c5], _ =>
    match xs, hlen with
    | [y0, y1, y2, y3], _ =>
      have h0 := hg 0 _ rfl
      have h1 := hg 1 _ rfl
      have h2 := hg 2 _ rfl
      have h3 := hg 3 _ rfl
      have k3 : Try.prog.cellsOf 3 = 1 := by kernel_rfl
      have k27 : Try.prog.cellsOf 27 = 3 := by kernel_rfl
      simp [k3, k27] at h0 h1 h2 h3
      obtain ⟨a, ha, _⟩ := DataW.trod_int Try.underlying3 h0
      obtain ⟨b, hb, _⟩ := DataW.trod_int Try.underlying3 h1
      obtain ⟨c, hc, _⟩ := DataW.trod_int Try.underlying3 h2
      obtain ⟨p, hp⟩ := shape27 h3 rfl
      simp [pc] at ha hb hc hp
      exact ⟨⟨a, b, c, p⟩, by rw [ha, hb, hc, hp.1, hp.2.1, hp.2.2]; rfl⟩
theorem rows_op {l : List (List Value)} (h : ∀ r ∈ l, ∃ o : Op6, r = oc o) : ∃ os : List Op6, l = os.map oc := by
  induction l with
  | nil => exact ⟨[], rfl⟩
  | cons r l ih =>
    obtain ⟨p, rfl⟩ := h r (by simp)
    obtain ⟨ps, rfl⟩ := ih fun r hr => h r (by simp [hr])
    exact ⟨p :: ps, rfl⟩
/-- a script that comes in. -/
def OpsAt (w : World) (a : Option Addr) (len : Nat) (os : List Op6) : Prop := RowsAt w 6 a len (os.map oc)
theorem OpsAt.get {w : World} {a : Option Addr} {len : Nat} {os : List Op6} (h : OpsAt w a len os) (k : Nat) (hk : k < len) :
    ∃ b off o, a = some ⟨b, off, none⟩ ∧ os[k]? = some o ∧ b < w.heap.size ∧ w.cell? ⟨b, off + k * 6, none⟩ = some (.int .i64 o.kd) ∧ w.cell? ⟨b, off + k * 6 + 1, none⟩ = some (.int .i64 o.k) ∧ w.cell? ⟨b, off + k * 6 + 2, none⟩ = some (.int .i64 o.j) ∧
      w.cell? ⟨b, off + k * 6 + 3, none⟩ = some (.int .i64 o.p.1) ∧ w.cell? ⟨b, off + k * 6 + 4, none⟩ = some (.int .i64 o.p.2.1) ∧ w.cell? ⟨b, off + k * 6 + 5, none⟩ = some (.string o.p.2.2) := by
  obtain ⟨h1, h2⟩ := h
  rw [List.length_map] at h1
  obtain ⟨b, off, rfl, hb, hc⟩ := h2.resolve_left (by omega)
  have hp : os[k]? = some (os[k]'(by omega)) := List.getElem?_eq_getElem (by omega)
  have hr : (os.map oc)[k]? = some (oc (os[k]'(by omega))) := by rw [List.getElem?_map, hp]; rfl
  exact ⟨b, off, _, rfl, hp, hb, hc k _ hr 0 _ rfl, hc k _ hr 1 _ rfl, hc k _ hr 2 _ rfl, hc k _ hr 3 _ rfl, hc k _ hr 4 _ rfl, hc k _ hr 5 _ rfl⟩
theorem open_ops {H : Type} {enc : TypeId × Value → H} {W : World} {base : Nat} {v : Value} {d : DataW H} {p : List MemPlace} (hv : Value.okWide Try.prog W .any base 35 v) (h : DataW.Trod enc Try.prog W 0 (fun _ => true) true 35 v d p) :
    ∃ a len cap os, v = .slice a len cap ∧ OpsAt W a len os ∧ len ≤ cap ∧ cap ≤ maxLen := by
  obtain ⟨a, len, cap, rfl⟩ := okWide_slice Try.underlying35 hv
  obtain ⟨rows, hr, _, h1, h2, hs⟩ := open_rows Try.underlying35 (show Try.prog.cellsOf 37 = 6 by kernel_rfl) (by omega) h
  obtain ⟨os, rfl⟩ := rows_op fun r hrm => by
    obtain ⟨hl, n, y, hy⟩ := hs r hrm
    exact shape37 hy hl
  exact ⟨a, len, cap, os, rfl, hr, h1, h2⟩

theorem not_between {a b : Int} {p : Pk} (h : goesB a b p = false) : ¬ (p.1 = a ∧ p.2.1 = b) ∧ ¬ (p.1 = b ∧ p.2.1 = a) := by
  simp only [goesB, pairOf, pairOf2, decide_eq_false_iff_not, Prod.mk.injEq] at h
  refine ⟨fun ⟨h1, h2⟩ => h ?_, fun ⟨h1, h2⟩ => h ?_⟩ <;> rw [h1, h2] <;> omega
theorem in_addKey (M : List (Int × Int)) (q : Int × Int) : q ∈ addKey M q := by unfold addKey; split <;> simp_all

set_option maxRecDepth 100000 in
set_option maxHeartbeats 2000000 in
theorem parts_core (W : World) (a0 : Option Addr) (len cap : Nat) (os : List Op6) (hP : OpsAt W a0 len os) (hm : len ≤ maxLen) (a b : Int) :
    Calls Try.prog 6 #[.slice a0 len cap, .int .i64 a, .int .i64 b] W fun e W' => e = .returned (.bool true) ∧ Below W.heap.size W W' := by
  unfold maxLen at hm
  have C0 := Lib.hid (new_net W)
  have HP := Lib.hid hP
  clear hP
  by_cases hbig : len > 200
  · go_enter Try.func6, Try.ntmps6
    go_wp2_with fail
    refine C0.out.mono ?_
    rintro e w1 ⟨rfl, hN1, bel1⟩
    go_wp2_with fail
    refine (alive_any _).mono ?_
    rintro e w2 ⟨rfl, bel2⟩
    go_wp2
    go_ret
    exact ⟨rfl, bel1.trans (bel2.mono bel1.size)⟩
  · go_enter Try.func6, Try.ntmps6
    go_wp2_with fail
    refine C0.out.mono ?_
    rintro e w1 ⟨rfl, hN1, bel1⟩
    have HN1 := Lib.hid hN1
    have HB1 := Lib.hid bel1
    have hl1 := hN1.box.lt
    clear hN1 bel1 C0
    go_wp2
    go_loopw [32] (fun i wr => ∃ (k : Nat) (v : Value) (ps : List Pk) (M : List (Int × Int)), k ≤ len ∧ i = .int .i64 k ∧ ps.length ≤ 2000 ∧ Net wr W.heap.size (W.heap.size + 1) W.heap.size v ps M ∧ Below W.heap.size W wr) (fun i _ => len - (intOf i).toNat)
    case atStart => exact ⟨0, _, [], [], Nat.zero_le _, rfl, by simp, HN1.out, HB1.out⟩
    case round =>
      obtain ⟨k, v, ps, M, hk, rfl, hps, hN, hbel⟩ := hrel
      have HN := Lib.hid hN
      have HB := Lib.hid hbel
      by_cases hlt : k < len
      · obtain ⟨bb, off, o, rfl, ho, hbb, d0, d1, d2, d3, d4, d5⟩ := HP.out.get k hlt
        rw [← hbel.cell (p := ⟨bb, _, none⟩) hbb] at d0 d1 d2 d3 d4 d5
        have hbr : bb < wr.heap.size := Nat.lt_of_lt_of_le hbb hbel.size
        have C1 := Lib.hid (does_any o (hN.alloc (.cells #[.int .i64 o.kd, .int .i64 o.k, .int .i64 o.j, .int .i64 o.p.1, .int .i64 o.p.2.1, .string o.p.2.2] 37)) (Nat.le_trans hbel.size (by simp)) hps)
        have HL := Lib.hid (step_len (M := M) o hps)
        unfold ov pv at C1
        clear hN hbel ho hps
        go_wp2_with fail
        refine C1.out.mono ?_
        rintro e w2 ⟨rfl, v2, hN2, g2⟩
        have HN2 := Lib.hid hN2
        have HB2 := Lib.hid (g2.below (HB.out.alloc HB.out.size _) (Nat.le_refl _) HN.out.of_ge)
        clear hN2 g2 C1 d0 d1 d2 d3 d4 d5
        go_wp2
        go_roundw
        case rel => exact ⟨k + 1, v2, _, _, by omega, by go_num, HL.out, HN2.out, HB2.out⟩
        case measure => simp [intOf]; omega
      · clear hN hbel
        have CP := Lib.hid (part_any a b HN.out HB.out.size (by omega))
        go_wp2_with fail
        refine CP.out.mono ?_
        rintro e w2 ⟨rfl, v2, hN2, g2⟩
        have HN2 := Lib.hid hN2
        have HB2 := Lib.hid (g2.below HB.out (Nat.le_refl _) HN.out.of_ge)
        obtain ⟨qs, hqs⟩ : ∃ qs, qs = ps.filter fun p => !goesB a b p := ⟨_, rfl⟩
        have hqa : ∀ p ∈ qs, goesB a b p = false := fun p hp => by rw [hqs] at hp; simpa using (List.mem_filter.1 hp).2
        have hql : qs.length ≤ 2000 := by rw [hqs]; exact Nat.le_trans (List.length_filter_le _ _) hps
        rw [← hqs] at HN2
        have HQA := Lib.hid hqa
        clear hN2 g2 CP hqs hqa
        have S1 := Lib.hid (send_all (a, b, ⟨#[]⟩) HN2.out HB2.out.size hql)
        have e1 : sendOk qs (addKey M (pairOf2 a b)) (a, b, ⟨#[]⟩) = false := by
          have : pairOf (a, b, (⟨#[]⟩ : ByteArray)) ∈ addKey M (pairOf2 a b) := in_addKey M (pairOf2 a b)
          simp [sendOk, this]
        rw [sendPs, e1] at S1
        simp only [Bool.false_eq_true, if_false] at S1
        unfold pv at S1
        clear e1
        go_wp2_with fail
        refine S1.out.mono ?_
        rintro e w3 ⟨rfl, v3, hN3, g3⟩
        have HN3 := Lib.hid hN3
        have HB3 := Lib.hid (g3.below HB2.out (Nat.le_refl _) HN2.out.of_ge)
        clear hN3 g3 S1
        have S2 := Lib.hid (send_all (b, a, ⟨#[]⟩) HN3.out HB3.out.size hql)
        have e2 : sendOk qs (addKey M (pairOf2 a b)) (b, a, ⟨#[]⟩) = false := by
          have h1 : pairOf (b, a, (⟨#[]⟩ : ByteArray)) = pairOf2 a b := by simp only [pairOf, pairOf2, Prod.mk.injEq]; omega
          have : pairOf (b, a, (⟨#[]⟩ : ByteArray)) ∈ addKey M (pairOf2 a b) := by rw [h1]; exact in_addKey M _
          simp [sendOk, this]
        rw [sendPs, e2] at S2
        simp only [Bool.false_eq_true, if_false] at S2
        unfold pv at S2
        clear e2
        go_wp2_with fail
        refine S2.out.mono ?_
        rintro e w4 ⟨rfl, v4, hN4, g4⟩
        have HN4 := Lib.hid hN4
        have HB4 := Lib.hid (g4.below HB3.out (Nat.le_refl _) HN3.out.of_ge)
        clear hN4 g4 S2
        go_wp2_with fail
        refine (len_any HN4.out).mono ?_
        rintro e w5 ⟨rfl, rfl⟩
        go_wp2
        go_loopw [56] (fun i wr => ∃ j : Nat, j ≤ qs.length ∧ i = .int .i64 j ∧ Net wr W.heap.size (W.heap.size + 1) W.heap.size v4 qs (addKey M (pairOf2 a b)) ∧ Below W.heap.size W wr) (fun i _ => qs.length - (intOf i).toNat)
        case atStart => exact ⟨0, Nat.zero_le _, rfl, HN4.out, HB4.out⟩
        case round =>
          obtain ⟨j, hj, rfl, hN, hbel⟩ := hrel
          have HN := Lib.hid hN
          have HB := Lib.hid hbel
          clear hN hbel
          by_cases hlt2 : j < qs.length
          · obtain ⟨p, hpe⟩ : ∃ p, p = qs[j] := ⟨_, rfl⟩
            have hp : qs[j]? = some p := by rw [hpe]; exact List.getElem?_eq_getElem hlt2
            have C1 := Lib.hid (at_yes j p HN.out hp (by omega))
            obtain ⟨n1, n2⟩ := not_between (HQA.out p (by rw [hpe]; exact List.getElem_mem hlt2))
            unfold pv at C1
            clear hpe hp
            have NN1 := Lib.hid n1
            have NN2 := Lib.hid n2
            clear n1 n2
            go_wp2_with fail
            refine C1.out.mono ?_
            rintro e w5 ⟨rfl, b5⟩
            have HN5 := Lib.hid ((HN.out.below b5 (Nat.le_refl _)).alloc (.cells #[.int .i64 p.1, .int .i64 p.2.1, .string p.2.2] 27))
            have HB5 := Lib.hid ((HB.out.trans (b5.mono HB.out.size)).alloc (Nat.le_trans HB.out.size b5.size) (.cells #[.int .i64 p.1, .int .i64 p.2.1, .string p.2.2] 27))
            clear b5 C1
            by_cases h1 : p.1 = a
            · have h2 : ¬ p.2.1 = b := fun h => NN1.out ⟨h1, h⟩
              have q1 : (p.1 == a) = true := by simpa using h1
              have q2 : (p.2.1 == b) = false := by simpa using h2
              by_cases h3 : p.1 = b
              · have h4 : ¬ p.2.1 = a := fun h => NN2.out ⟨h3, h⟩
                have q3 : (p.1 == b) = true := by simpa using h3
                have q4 : (p.2.1 == a) = false := by simpa using h4
                clear h1 h2 h3 h4
                go_wp2
                go_roundw
                case rel => exact ⟨j + 1, by omega, by go_num, HN5.out, HB5.out⟩
                case measure => simp [intOf]; omega
              · have q3 : (p.1 == b) = false := by simpa using h3
                clear h1 h2 h3
                go_wp2
                go_roundw
                case rel => exact ⟨j + 1, by omega, by go_num, HN5.out, HB5.out⟩
                case measure => simp [intOf]; omega
            · have q1 : (p.1 == a) = false := by simpa using h1
              by_cases h3 : p.1 = b
              · have h4 : ¬ p.2.1 = a := fun h => NN2.out ⟨h3, h⟩
                have q3 : (p.1 == b) = true := by simpa using h3
                have q4 : (p.2.1 == a) = false := by simpa using h4
                clear h1 h3 h4
                go_wp2
                go_roundw
                case rel => exact ⟨j + 1, by omega, by go_num, HN5.out, HB5.out⟩
                case measure => simp [intOf]; omega
              · have q3 : (p.1 == b) = false := by simpa using h3
                clear h1 h3
                go_wp2
                go_roundw
                case rel => exact ⟨j + 1, by omega, by go_num, HN5.out, HB5.out⟩
                case measure => simp [intOf]; omega
          · go_wp2_with fail
            refine (len_any HN.out).mono ?_
            rintro e w5 ⟨rfl, rfl⟩
            go_wp2_with fail
            refine (heal_any HN.out).mono ?_
            rintro e w5 ⟨rfl, hN5, g5⟩
            have HN5 := Lib.hid hN5
            have HB5 := Lib.hid (g5.below HB.out (Nat.le_refl _) HN.out.of_ge)
            clear hN5 g5
            have S3 := Lib.hid (send_all (a, b, ⟨#[]⟩) HN5.out HB5.out.size hql)
            obtain ⟨f, hf⟩ : ∃ f : Bool, f = decide (qs.length < 2000) := ⟨_, rfl⟩
            have e3 : sendOk qs [] (a, b, ⟨#[]⟩) = f := by simp [sendOk, hf]
            rw [e3] at S3
            unfold pv at S3
            have HF := Lib.hid hf
            clear e3 hf
            go_wp2_with fail
            refine S3.out.mono ?_
            rintro e w6 ⟨rfl, v6, hN6, g6⟩
            have HN6 := Lib.hid hN6
            have HB6 := Lib.hid (g6.below HB5.out (Nat.le_refl _) HN5.out.of_ge)
            clear hN6 g6 S3
            go_wp2_with fail
            refine (alive_any _).mono ?_
            rintro e w7 ⟨rfl, b7⟩
            have HN7 := Lib.hid (HN6.out.below b7 (Nat.le_refl _))
            have HB7 := Lib.hid (HB6.out.trans (b7.mono HB6.out.size))
            clear b7
            cases f
            · have hfl : ¬ qs.length < 2000 := by have := HF.out; simpa using this
              have hd : decide ((2000 : Int) ≤ (qs.length : Int)) = true := by simp; omega
              clear hfl
              go_wp2_with fail
              refine (apart_is a b HN7.out false (by simp)).mono ?_
              rintro e w8 ⟨rfl, b8⟩
              go_wp2
              go_ret
              exact ⟨by first | rfl | simp, HB7.out.trans (b8.mono HB7.out.size)⟩
            · have hfl : qs.length < 2000 := by have := HF.out; simpa using this
              have hd : decide ((2000 : Int) ≤ (qs.length : Int)) = false := by simp; omega
              clear hfl
              go_wp2_with fail
              refine (apart_is a b HN7.out false (by simp)).mono ?_
              rintro e w8 ⟨rfl, b8⟩
              go_wp2
              go_ret
              exact ⟨by first | rfl | simp, HB7.out.trans (b8.mono HB7.out.size)⟩

theorem parcelsParts_walk {H : Type} {enc : TypeId × Value → H} {base : Nat} {p0 : List MemPlace} (W : World) (v0 : Value) (d0 : DataW H) (hv : Value.okWide Try.prog W .any base 35 v0) (h : DataW.Trod enc Try.prog W 0 (fun _ => true) true 35 v0 d0 p0) (_b : ∀ n ∈ d0.weights Try.prog 35, n ≤ 140737488351232)
    (a1 : Int) (_w1 : (Lit.int .i64 a1).wf = true) (a2 : Int) (_w2 : (Lit.int .i64 a2).wf = true) :
    Calls Try.prog 6 #[v0, .int .i64 a1, .int .i64 a2] W fun e W' => e = .returned (.bool true) ∧ Below W.heap.size W W' := by
  obtain ⟨a, len, cap, os, rfl, hP, h1, h2⟩ := open_ops hv h
  exact parts_core W a len cap os hP (Nat.le_trans h1 h2) a1 a2
end Go.Proofs.Ytejoggbebmmlkaa
