/- chart: Encode. Conditions: the mounts lie in memory; paths have at most 4194304 bytes, the mounts are at most 1000000; the library's variables hold what the row lays. -/
import Derived.Test.YtbkjhogfpcmcbaaDoorLq
import Derived.Test.YtbkjhogfpcmcbaaDoorLm
namespace Go.Proofs.YtbkjhogfpcmcbaaDoor
open Go Go.RowKit Zn
open Go.Lib (decDigits)
set_option linter.unusedVariables false
set_option linter.unusedSimpArgs false
variable {w w' : World}
theorem isb_below {B b : Nat} {bs : List Value} {w w' : World} (h : Lib.IsBuilder 70 5 B b bs w) (hb : Below w.heap.size w w') : Lib.IsBuilder 70 5 B b bs w' := by
  have H : ∀ p, Lib.BuilderAt 70 5 B b p bs w → Lib.BuilderAt 70 5 B b p bs w' := by
    intro p hp
    have hlt := hp.lt
    obtain ⟨hB, v, hc, hown, hne⟩ := hp
    exact ⟨hB, v, (hb.block b hlt).trans hc, own_below hown hb, hne⟩
  rcases h with h | h
  · exact .inl (H _ h)
  · exact .inr (H _ h)
theorem cells_app (l : Nm) (s : ByteArray) : Lib.byteCells l ++ Lib.strCells s = Lib.byteCells (l ++ s.data.toList) := by
  unfold Lib.byteCells Lib.strCells
  rw [List.map_append]
theorem cells_len (l : Nm) : (Lib.byteCells l).length = l.length := by unfold Lib.byteCells; rw [List.length_map]
set_option maxRecDepth 100000 in
set_option maxHeartbeats 4000000 in
theorem enc_any (a : Option Addr) (len cap : Nat) (ms : List Mt) (w : World) (h : MsAt w a len ms) (hs : ∀ x ∈ ms, x.p.size ≤ 4194304) (hl : len ≤ 1000000) (hm : Mx w) (ht : Tb w) :
    Calls Tryd.prog 14 #[.slice a len cap] w (Encoded (encO ms) w) := by
  have C := check_any a len cap ms h hs hm hl
  unfold checkE at C
  cases hcb : checkB ms with
  | false =>
    rw [hcb] at C
    have C := Lib.hid C
    have HE := Lib.hid (show encO ms = none by unfold encO; rw [hcb]; rfl)
    clear h hs hcb hm ht
    go_enter Tryd.func14, Tryd.ntmps14
    go_wp2_with fail
    refine C.out.mono ?_
    rintro e w1 ⟨rfl, b1⟩
    have HB := Lib.hid b1
    clear b1 C
    go_wp2_with fail
    exact ret_two rfl rfl (x := .string ⟨#[]⟩) (y := .int .i64 200) rfl rfl (Encoded.no HE.out HB.out)
  | true =>
    rw [hcb] at C
    have C := Lib.hid C
    have hmem : ∀ x ∈ ms, validZ x.p.data.toList = true ∧ 1 ≤ x.v ∧ x.v ≤ 999 := fun x hx => check_mem hcb hx
    have hll := h.len
    have h40 : ms.length ≤ 40 := (check_parts hcb).2.1
    have HLE := Lib.hid hll
    have HME := Lib.hid hmem
    have H := Lib.hid h
    have HT := Lib.hid ht
    have HEO := Lib.hid (show encO ms = if (encL ms).length ≤ 1024 then some (encL ms) else none by unfold encO; rw [hcb, Bool.true_and]; simp only [decide_eq_true_eq])
    have hlen40 : len ≤ 40 := by omega
    clear h hs hcb hmem hll h40 hl hm ht
    go_enter Tryd.func14, Tryd.ntmps14
    go_wp2_with fail
    refine C.out.mono ?_
    rintro e w1 ⟨rfl, b1⟩
    have hb2 : Below w.heap.size w (w1.alloc (.cells #[.pointer none, .slice none 0 0] 70)) := b1.alloc b1.size _
    have HB2 := Lib.hid hb2
    have hsz1 := b1.size
    have HIB := Lib.hid (show Lib.IsBuilder 70 5 w.heap.size w1.heap.size (Lib.byteCells (encL (ms.take 0))) (w1.alloc (.cells #[.pointer none, .slice none 0 0] 70)) from .inl ⟨hsz1, .slice none 0 0, heap_alloc_new w1 _, World.ownsRow_nil _ _ _ _, by simp [Value.ownBlock]⟩)
    clear b1 C hb2
    go_wp2_with fail
    generalize w1.alloc (.cells #[.pointer none, .slice none 0 0] 70) = w2 at HB2 HIB ⊢
    obtain ⟨b, hbb⟩ : ∃ b, b = w1.heap.size := ⟨_, rfl⟩
    rw [← hbb] at HIB ⊢
    clear hbb hsz1
    go_loopw [12] (fun i wr => ∃ k : Nat, k ≤ len ∧ i = .int .i64 k ∧ Lib.IsBuilder 70 5 w.heap.size b (Lib.byteCells (encL (ms.take k))) wr ∧ Below w.heap.size w wr) (fun i _ => len - (intOf i).toNat)
    case atStart => exact ⟨0, Nat.zero_le _, rfl, HIB.out, HB2.out⟩
    case round =>
      obtain ⟨k, hk, rfl, hib, hb⟩ := hrel
      have HB := Lib.hid hb
      have HIBK := Lib.hid hib
      clear hib
      have hEs : (encL (ms.take k)).length ≤ 19760 := by
        have h1 := encL_len (ms := ms.take k) fun x hx => HME.out x (List.mem_of_mem_take hx)
        rw [List.length_take] at h1
        omega
      by_cases hlt : k < len
      · obtain ⟨b', off, x, rfl, hp, hbl, c0, c1⟩ := H.out.get k hlt
        have c0 := (hb.cell (p := ⟨b', off + k * 2, none⟩) hbl).trans c0
        have c1 := (hb.cell (p := ⟨b', off + k * 2 + 1, none⟩) hbl).trans c1
        have hbw : b' < wr.heap.size := Nat.lt_of_lt_of_le hbl hb.size
        have hx := HME.out x (List.mem_of_getElem? hp)
        have hel := enc_len hx
        obtain ⟨n, hn⟩ := Int.eq_ofNat_of_zero_le (show 0 ≤ x.v by omega)
        have C2 := fun w1 (h : Tb w1) => itoa_nat n (by omega) w1 h
        obtain ⟨T, hT⟩ : ∃ T : ByteArray, T = ⟨(decDigits n).toArray⟩ := ⟨_, rfl⟩
        have hTD : T.data.toList = decDigits n := by rw [hT]
        have hTs : T.size ≤ 3 := by rw [Lib.size_eq, hTD]; have := hel.2; rw [hn, Int.toNat_natCast] at this; exact this
        have hps : x.p.size ≤ 489 := hel.1
        rw [← hT] at C2
        rw [hn] at c1
        have C2 := Lib.hid C2
        have f1 : ¬ 9223372036854775807 < T.size + 1 := by omega
        have f2 : ¬ 9223372036854775807 < T.size + 1 + x.p.size := by omega
        have f3 : ¬ 9223372036854775807 < T.size + 1 + x.p.size + 1 := by omega
        have HEQ := Lib.hid (show Lib.byteCells (encL (ms.take k)) ++ Lib.strCells (((T ++ (⟨#[32]⟩ : ByteArray)) ++ x.p) ++ (⟨#[10]⟩ : ByteArray)) = Lib.byteCells (encL (ms.take (k + 1))) by
          rw [cells_app, encL_next hp, cat_mk, cat_mk, cat_mk, hTD]
          unfold encM
          rw [hn, Int.toNat_natCast]
          simp)
        have HLB := Lib.hid (show (Lib.byteCells (encL (ms.take k))).length + (((T ++ (⟨#[32]⟩ : ByteArray)) ++ x.p) ++ (⟨#[10]⟩ : ByteArray)).size ≤ 140737488355328 by
          rw [cells_len, ByteArray.size_append, ByteArray.size_append, ByteArray.size_append]
          show _ + (T.size + 1 + x.p.size + 1) ≤ _
          omega)
        have hba : Below wr.heap.size wr (wr.alloc (.cells #[.string x.p, .int .i64 n] 53)) := (Below.refl _ _).alloc (Nat.le_refl _) _
        have HB5 := Lib.hid (HB.out.trans (hba.mono HB.out.size))
        have HIB5 := Lib.hid (isb_below HIBK.out hba)
        have HT5 := Lib.hid (HT.out.below HB5.out)
        have hbx := Box.new wr 53 #[.string x.p, .int .i64 n]
        have HX0 := Lib.hid (show (wr.alloc (.cells #[.string x.p, .int .i64 n] 53)).cell? ⟨wr.heap.size, 0, none⟩ = some (.string x.p) from hbx.cell 0)
        have HX1 := Lib.hid (show (wr.alloc (.cells #[.string x.p, .int .i64 n] 53)).cell? ⟨wr.heap.size, 1, none⟩ = some (.int .i64 n) from hbx.cell 1)
        have hn6 : wr.heap.size < (wr.alloc (.cells #[.string x.p, .int .i64 n] 53)).heap.size := hbx.lt
        clear hp hb hbl hx hel hn hT hTD hTs hps hba hbx hEs
        go_upto_region 7 with (fail)
        obtain ⟨n6, hn6e⟩ : ∃ n6, n6 = wr.heap.size := ⟨_, rfl⟩
        obtain ⟨w5, hw5⟩ : ∃ w5, w5 = wr.alloc (.cells #[.string x.p, .int .i64 n] 53) := ⟨_, rfl⟩
        rw [← hw5, ← hn6e] at HX0 HX1
        rw [← hw5] at HB5 HIB5 HT5
        rw [← hn6e, ← hw5] at hn6
        rw [← hw5, ← hn6e]
        clear hw5 hn6e c0 c1
        refine wp_region_steps (fun w' => Below w5.heap.size w5 w') [(true, 0), (true, 1), (true, 4), (true, 5), (false, 2), (true, 3), (true, 6), (true, 7), (false, 8)] 8 _ _ (by kernel_rfl) rfl (by kernel_rfl) (by kernel_rfl) rfl (fun _ _ _ _ _ h => h) (Below.drew (Below.refl _ _)) ?_
        intro S HS
        simp only [pickS, List.getElem?_cons_zero, List.getElem?_cons_succ]
        refine wpSteps_head ?_
        go_big_quiet_want; apply quiet_value; (· (intro w' hw; have hw := (HS.out _).1 hw; have e0 := (hw.cell (p := ⟨n6, 0, none⟩) hn6).trans HX0.out; have e1 := (hw.cell (p := ⟨n6, 1, none⟩) hn6).trans HX1.out; have hl6 := Nat.lt_of_lt_of_le hn6 hw.size; go_simp; try rfl)); simp only [Act.put, List.setIfInBounds_toArray, List.set_cons_succ, List.set_cons_zero]; go_big_quiet_on
        refine wpQuiet_nil ?_
        refine wpSteps_head ?_
        go_big_quiet_want; apply quiet_value; (· (intro w' hw; have hw := (HS.out _).1 hw; have e0 := (hw.cell (p := ⟨n6, 0, none⟩) hn6).trans HX0.out; have e1 := (hw.cell (p := ⟨n6, 1, none⟩) hn6).trans HX1.out; have hl6 := Nat.lt_of_lt_of_le hn6 hw.size; go_simp; try rfl)); simp only [Act.put, List.setIfInBounds_toArray, List.set_cons_succ, List.set_cons_zero]; go_big_quiet_on
        refine wpQuiet_nil ?_
        refine wpSteps_head ?_
        go_big_quiet_want; apply quiet_value; (· (intro w' hw; have hw := (HS.out _).1 hw; have e0 := (hw.cell (p := ⟨n6, 0, none⟩) hn6).trans HX0.out; have e1 := (hw.cell (p := ⟨n6, 1, none⟩) hn6).trans HX1.out; have hl6 := Nat.lt_of_lt_of_le hn6 hw.size; go_simp; try rfl)); simp only [Act.put, List.setIfInBounds_toArray, List.set_cons_succ, List.set_cons_zero]; go_big_quiet_on
        refine wpQuiet_nil ?_
        refine wpSteps_head ?_
        go_big_quiet_want; apply quiet_value; (· (intro w' hw; have hw := (HS.out _).1 hw; have e0 := (hw.cell (p := ⟨n6, 0, none⟩) hn6).trans HX0.out; have e1 := (hw.cell (p := ⟨n6, 1, none⟩) hn6).trans HX1.out; have hl6 := Nat.lt_of_lt_of_le hn6 hw.size; go_simp; try rfl)); simp only [Act.put, List.setIfInBounds_toArray, List.set_cons_succ, List.set_cons_zero]; go_big_quiet_on
        refine wpQuiet_nil ?_
        refine wpSteps_more ?_
        go_wp2_with fail
        refine (C2.out _ (HT5.out.below (Below.drew (Below.refl _ _)))).mono ?_
        rintro e w6 ⟨rfl, b6⟩
        have hb6 : Below w5.heap.size w5 w6 := (Below.drew (Below.refl _ _)).trans b6
        have HB6 := Lib.hid (HB5.out.trans (hb6.mono HB5.out.size))
        have HIB6 := Lib.hid (isb_below HIB5.out hb6)
        have p6 : S w6 := (HS.out _).2 hb6
        clear b6 hb6
        go_wp2_with fail
        refine ThenS.mk p6 ?_
        refine wpSteps_head ?_
        go_big_quiet_want; apply quiet_value; (· (intro w' hw; have hw := (HS.out _).1 hw; have e0 := (hw.cell (p := ⟨n6, 0, none⟩) hn6).trans HX0.out; have e1 := (hw.cell (p := ⟨n6, 1, none⟩) hn6).trans HX1.out; have hl6 := Nat.lt_of_lt_of_le hn6 hw.size; go_simp; try rfl)); simp only [Act.put, List.setIfInBounds_toArray, List.set_cons_succ, List.set_cons_zero]; go_big_quiet_on
        refine wpQuiet_nil ?_
        refine wpSteps_head ?_
        go_big_quiet_want; apply quiet_value; (· (intro w' hw; have hw := (HS.out _).1 hw; have e0 := (hw.cell (p := ⟨n6, 0, none⟩) hn6).trans HX0.out; have e1 := (hw.cell (p := ⟨n6, 1, none⟩) hn6).trans HX1.out; have hl6 := Nat.lt_of_lt_of_le hn6 hw.size; go_simp; try rfl)); simp only [Act.put, List.setIfInBounds_toArray, List.set_cons_succ, List.set_cons_zero]; go_big_quiet_on
        refine wpQuiet_nil ?_
        refine wpSteps_head ?_
        go_big_quiet_want; apply quiet_value; (· (intro w' hw; have hw := (HS.out _).1 hw; have e0 := (hw.cell (p := ⟨n6, 0, none⟩) hn6).trans HX0.out; have e1 := (hw.cell (p := ⟨n6, 1, none⟩) hn6).trans HX1.out; have hl6 := Nat.lt_of_lt_of_le hn6 hw.size; go_simp; try rfl)); simp only [Act.put, List.setIfInBounds_toArray, List.set_cons_succ, List.set_cons_zero]; go_big_quiet_on
        refine wpQuiet_nil ?_
        refine wpSteps_last ?_
        go_wp2_with fail
        refine (bwrite_any w.heap.size b _ _ _ HIB6.out HLB.out HB6.out.size).mono ?_
        rintro e w8 ⟨rfl, hat, b8⟩
        have HB8 := Lib.hid (HB6.out.trans b8)
        have HIB8 := Lib.hid (show Lib.IsBuilder 70 5 w.heap.size b (Lib.byteCells (encL (ms.take (k + 1)))) w8 from .inr (by rw [← HEQ.out]; exact hat))
        clear hat b8
        go_wp2_with fail
        go_roundw
        case rel => exact ⟨k + 1, by omega, by go_num, HIB8.out, HB8.out⟩
        case measure => simp [intOf]; omega
      · obtain rfl : k = len := by omega
        have htk : ms.take k = ms := List.take_of_length_le (by rw [HLE.out]; exact Nat.le_refl _)
        have hib := HIBK.out
        rw [htk] at hib hEs
        have C4 := Tryd.Builder_Len w.heap.size b (Lib.byteCells (encL ms)) wr hib
        rw [cells_len] at C4
        have C5 := Tryd.Builder_String_any w.heap.size b (encL ms) wr hib HB.out.size
        have hE := HEO.out
        obtain ⟨z, hz⟩ : ∃ z, z = (encL ms).length := ⟨_, rfl⟩
        rw [← hz] at C4 hE
        have C4 := Lib.hid C4
        have HE0 := Lib.hid hE
        obtain ⟨T, hT⟩ : ∃ T : ByteArray, T = ⟨(encL ms).toArray⟩ := ⟨_, rfl⟩
        rw [← hT] at C5
        have C5 := Lib.hid C5
        have HTD := Lib.hid (show T.data.toList = encL ms by rw [hT])
        clear hb htk hib hEs hlt hE hz hT
        by_cases h1 : z ≤ 1024
        · have HE := Lib.hid (show encO ms = some T.data.toList by rw [HE0.out, if_pos h1, HTD.out])
          have q1 : decide ((1024 : Int) < (z : Int)) = false := by rw [decide_eq_false_iff_not]; omega
          clear h1
          go_wp2_with fail
          refine C4.out.mono ?_
          rintro e w4 ⟨rfl, rfl⟩
          go_wp2_with fail
          refine C5.out.mono ?_
          rintro e w5 ⟨rfl, b5⟩
          have HB5 := Lib.hid (HB.out.trans b5)
          clear b5
          go_wp2_with fail
          exact ret_two rfl rfl (x := .string T) (y := .int .i64 0) rfl rfl (Encoded.yes HE.out HB5.out)
        · have HE := Lib.hid (show encO ms = none by rw [HE0.out, if_neg h1])
          have q1 : decide ((1024 : Int) < (z : Int)) = true := by rw [decide_eq_true_iff]; omega
          clear h1
          go_wp2_with fail
          refine C4.out.mono ?_
          rintro e w4 ⟨rfl, rfl⟩
          go_wp2_with fail
          exact ret_two rfl rfl (x := .string ⟨#[]⟩) (y := .int .i64 200) rfl rfl (Encoded.no HE.out HB.out)
end Go.Proofs.YtbkjhogfpcmcbaaDoor
