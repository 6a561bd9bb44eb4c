/- ledger: read, the half that counts. Conditions: the ledger lies in the call's own memory, the disk is not dead. -/
import Derived.Test.YtdiboicllolcnaaLe
import Derived.WalkMore
namespace Go.Proofs.Ytdiboicllolcnaa
open Go Go.RowKit
set_option linter.unusedVariables false
set_option linter.unusedSimpArgs false
variable {w w' : World} {base n nd : Nat} {V V' : Vl} {VD VD' : Vs} {D D' : Dk} {G G' : Lg}

theorem own_base' {e size n : Nat} {v : Value} {xs : List Value} {b b' : Nat} (h : w.ownsRow b e size v n xs) (hb : b' ≤ b) : w.ownsRow b' e size v n xs := own_base h fun k hk => Nat.le_trans hb (own_ge h k hk)
theorem Touch.trans' {S : Nat → Prop} {w w' w'' : World} (h : Touch S w w') (b : Below w'.heap.size w' w'') : Touch S w w'' := h.trans (⟨b.os, b.tape, b.output, b.size, fun k hk _ => b.block k hk⟩)
theorem Ldg.drew' (h : Ldg w base n nd V VD D G) : Ldg w.drew base n nd V VD D G := h.stays fun _ _ _ => rfl
/-- the bytes of sectors from one on. -/
def secs (D : Dk) (from_ k : Nat) : Sec := ((D.now.drop from_).take k).flatten
theorem secs_succ {D : Dk} {f k : Nat} {X : Sec} (h : D.now[f + k]? = some X) : secs D f (k + 1) = secs D f k ++ X := by
  unfold secs
  rw [List.take_add_one, List.getElem?_drop, h]
  simp
theorem secs_len {D : Dk} (hg : Good D) {f k : Nat} (h : f + k ≤ D.now.length) : (secs D f k).length = k * 64 := by
  induction k with
  | zero => simp [secs]
  | succ k ih =>
    have hX : D.now[f + k]? = some (D.now[f + k]'(by omega)) := List.getElem?_eq_getElem (by omega)
    rw [secs_succ hX, List.length_append, ih (by omega), hg.fulln _ (List.mem_of_getElem? hX)]
    omega
theorem own_prefix {e m c g F : Nat} {xs : List Value} (h : w.ownsRow base e 1 (.slice (some ⟨g, 0, none⟩) m c) m xs) (hF : F ≤ m) : w.ownsRow base e 1 (.slice (some ⟨g, 0, none⟩) F c) F (xs.take F) := by
  have hl := h.1
  refine ⟨by rw [List.length_take]; omega, ?_⟩
  rcases h.2 with ⟨h1, _⟩ | ⟨g', cap, cur, he, hb, hg, h3, h4, h5, h6⟩
  · cases h1
  · obtain ⟨rfl, rfl⟩ : g = g' ∧ c = cap := by simpa using he
    refine .inr ⟨g, c, cur, rfl, hb, hg, by omega, h4, h5, ?_⟩
    rw [← h6, List.take_take]
    congr 1
    omega
theorem bys_own {m c : Nat} {ad : Option Addr} {b : Sec} (h : w.ownsRow base 5 1 (.slice ad m c) m (bc b)) (hm : m ≤ maxLen) : Bys w ad m b := by
  have hl : b.length = m := by have := h.1; rw [bc_len] at this; omega
  refine ⟨hl, hm, ?_⟩
  by_cases h0 : m = 0
  · exact .inl h0
  · obtain ⟨g, rfl, _, hg, hc⟩ := own_at h 0 (by omega)
    exact .inr ⟨g, 0, rfl, hg, fun j v hj => by rw [Nat.zero_add]; exact hc j v hj⟩
theorem slice_to (g len cap hi : Nat) (h : hi ≤ cap) (W : World) : (Instr.sliceAt 32 (.slice (some ⟨g, 0, none⟩) len cap) none (some (.int .i64 (hi : Int))) none).run Try.prog W = .ok (.slice (some ⟨g, 0, none⟩) hi cap) W := by
  have e : (sizeOf (Try.prog.elem 32)).run Try.prog W = .ok 1 W := by kernel_rfl
  rw [run_sliceAt_slice W 32 _ _ _ _ Try.underlying32, run_slice_h W 32 _ len cap Try.underlying32 .i64 hi (by omega) (by omega), e]
  simp only [Result.andThen, sliced, Int.toNat_natCast]
  by_cases hc : cap = 0
  · rw [if_pos hc]
    subst hc
    rfl
  · rw [if_neg hc]
    simp [addr_add]
/-- the ledger's rows are other ones. -/
theorem Ldg.rows (h : Ldg w base n nd V VD D G) (hk : ∀ k, k < w.heap.size → k ≠ n → w'.heap[k]? = w.heap[k]?) (G' : Lg) (hbx : Box w' n 71 (lcs nd V' G')) (hrb : w'.ownsRow base 5 1 V'.b G'.b.length (bc G'.b)) (hra : w'.ownsRow base 9 1 V'.a G'.all.length (G'.all.map Value.string)) : Ldg w' base n nd V' VD D G' :=
  ⟨hbx, h.dsk.stays fun k hl ho => hk k hl (by rintro rfl; exact h.dsk.notBox h.box (by decide) (by decide) (by decide) ho), hrb, hra, h.hn⟩
def halfB (D : Dk) (G : Lg) : Sec := secs D (firstG G G.half) G.size
theorem secs_take {D : Dk} (hg : Good D) {f k m : Nat} (hk : k ≤ m) (h : f + m ≤ D.now.length) : (secs D f m).take (k * 64) = secs D f k := by
  induction m with
  | zero =>
    obtain rfl : k = 0 := by omega
    simp [secs]
  | succ m ih =>
    by_cases hkm : k = m + 1
    · subst hkm
      exact List.take_of_length_le (by rw [secs_len hg h]; exact Nat.le_refl _)
    · have hX : D.now[f + m]? = some (D.now[f + m]'(by omega)) := List.getElem?_eq_getElem (by omega)
      rw [secs_succ hX, List.take_append_of_le_length (by rw [secs_len hg (by omega)]; exact Nat.mul_le_mul_right _ (by omega)), ih (by omega) (by omega)]
/-- what read answers. -/
def ReadPost (w : World) (base n nd : Nat) (V : Vl) (VD : Vs) (D : Dk) (G : Lg) (e : Ending) (w' : World) : Prop :=
  Touch (· = n) w w' ∧ ((decL ((halfB D G).take G.firm) = none ∧ e = .returned (.int .i64 50)) ∨ ∃ all V', decL ((halfB D G).take G.firm) = some all ∧ e = .returned (.int .i64 0) ∧ Ldg w' base n nd V' VD D { G with b := (halfB D G).take G.firm, all := all } ∧ GoesL w w' n nd V V' VD VD)
set_option maxRecDepth 100000 in
set_option maxHeartbeats 8000000 in
theorem lread_any (h : Ldg w base n nd V VD D G) (hb : base ≤ w.heap.size) (hf : Fits G D) (hg : Good D) (hd : D.dead = false) (hfirm : G.firm ≤ G.size * 64) : Calls Try.prog 41 #[.pointer (some ⟨n, 0, none⟩)] w (ReadPost w base n nd V VD D G) := by
  have p2 : w.cell? ⟨n, 2, none⟩ = some (.int .i64 (G.size : Nat)) := h.box.cell 2
  have hn := h.box.lt
  have hz1 := hf.size
  have hz2 := hf.disk
  have hz0 := hf.size0
  obtain ⟨i0, hi, hy0, hy1, hy2⟩ := info_parts row5
  have HI := Lib.hid hi
  have HZZ := Lib.hid hy0
  have HL0 := Lib.hid h
  have HF := Lib.hid hf
  have HG := Lib.hid hg
  have HDD := Lib.hid hd
  have hfl : firstG G G.half + G.size ≤ D.now.length := by
    have h1 := hf.half
    have h2 := hf.size
    have h3 : G.half * G.size ≤ 1 * G.size := Nat.mul_le_mul_right _ (by omega)
    unfold firstG
    omega
  have HFL := Lib.hid hfl
  clear h hf hg hd hi hy0 hfl
  go_enter Try.func41, Try.ntmps41
  go_wp2_with fail
  go_step3
  go_wp2_with fail
  go_step3
  go_wp2_with fail
  clear p2
  go_loopw [3, 4, 5, 6, 13] (fun b _ _ _ i wr => ∃ k : Nat, k < G.size ∧ i = .int .i64 k ∧ (k = 0 ∨ k * 64 < G.firm) ∧ wr.ownsRow w.heap.size 5 1 b (k * 64) (bc (secs D (firstG G G.half) k)) ∧ Below w.heap.size w wr) (fun _ _ _ _ i _ => G.size - (intOf i).toNat)
  case atStart => exact ⟨0, by omega, rfl, .inl rfl, by simpa [secs, bc] using World.ownsRow_nil w w.heap.size 5 1, Below.refl _ _⟩
  case round =>
    obtain ⟨k, hk, rfl, hkf, hO, hb⟩ := hrel
    obtain ⟨ab, cb, rfl, _⟩ := own_shape hO
    have hfk : firstG G G.half + k < D.now.length := by have := HFL.out; omega
    obtain ⟨X, hX⟩ : ∃ X, D.now[firstG G G.half + k]? = some X := ⟨_, List.getElem?_eq_getElem hfk⟩
    have HX64 := Lib.hid (HG.out.fulln X (List.mem_of_getElem? hX))
    have HL := Lib.hid (HL0.out.bel hb)
    have HW := Lib.hid hb
    have HO := Lib.hid hO
    have HXD := Lib.hid hX
    have HMAY := Lib.hid (may_live HDD.out hfk)
    have hw1 : IntKind.i64.wrap ((firstG G G.half : Int) + (k : Int)) = ((firstG G G.half + k : Nat) : Int) := by rw [IntKind.wrap_i64]; omega
    clear hO hb hX
    go_upto_region 5 with (fail)
    refine wp_region_steps (fun w' => Box w' n 71 (lcs nd V G)) [(true, 0), (true, 1), (true, 2), (true, 3), (true, 4), (true, 5), (true, 6), (true, 7), (true, 8), (true, 10), (false, 9), (true, 11), (false, 12), (true, 13), (true, 14), (true, 15), (true, 16), (false, 17)] 17 _ _ (by kernel_rfl) rfl (by kernel_rfl) (by kernel_rfl) rfl (fun _ _ _ _ _ h => h) HL.out.box.drew ?_
    intro S HS
    simp only [pickS, List.getElem?_cons_zero, List.getElem?_cons_succ]
    refine wpSteps_head ?_
    go_big_quiet_want; go_big_quiet_op; go_big_quiet_on
    refine wpQuiet_nil ?_
    refine wpSteps_head ?_
    go_big_quiet_want; apply quiet_value; (· (intro w' hw; have hB := (HS.out _).1 hw; have hbl := hB.lt; go_simp; try rfl)); simp only [Act.put, List.setIfInBounds_toArray, List.set_cons_succ, List.set_cons_zero]; go_big_quiet_on
    refine wpQuiet_nil ?_
    refine wpSteps_head ?_
    go_big_quiet_want; apply quiet_value; (· (intro w' hw; have hB := (HS.out _).1 hw; have hbl := hB.lt; go_simp; try rfl)); simp only [Act.put, List.setIfInBounds_toArray, List.set_cons_succ, List.set_cons_zero]; go_big_quiet_on
    refine wpQuiet_nil ?_
    refine wpSteps_head ?_
    go_big_quiet_want; apply quiet_value; (· (intro w' hw; have hB := (HS.out _).1 hw; have hbl := hB.lt; have p0 : w'.cell? ⟨n, 0, none⟩ = some (.pointer (some ⟨nd, 0, none⟩)) := hB.cell 0; go_simp; try rfl)); simp only [Act.put, List.setIfInBounds_toArray, List.set_cons_succ, List.set_cons_zero]; go_big_quiet_on
    refine wpQuiet_nil ?_
    refine wpSteps_head ?_
    go_big_quiet_want; go_big_quiet_op; go_big_quiet_on
    refine wpQuiet_nil ?_
    refine wpSteps_head ?_
    go_big_quiet_want; go_big_quiet_op; go_big_quiet_on
    refine wpQuiet_nil ?_
    refine wpSteps_head ?_
    go_big_quiet_want; apply quiet_value; (· (intro w' hw; have hB := (HS.out _).1 hw; have hbl := hB.lt; go_simp; try rfl)); simp only [Act.put, List.setIfInBounds_toArray, List.set_cons_succ, List.set_cons_zero]; go_big_quiet_on
    refine wpQuiet_nil ?_
    refine wpSteps_head ?_
    go_big_quiet_want; apply quiet_value; (· (intro w' hw; have hB := (HS.out _).1 hw; have hbl := hB.lt; go_simp; try rfl)); simp only [Act.put, List.setIfInBounds_toArray, List.set_cons_succ, List.set_cons_zero]; go_big_quiet_on
    refine wpQuiet_nil ?_
    refine wpSteps_head ?_
    go_big_quiet_want; apply quiet_value; (· (intro w' hw; have hB := (HS.out _).1 hw; have hbl := hB.lt; have p4 : w'.cell? ⟨n, 4, none⟩ = some (.int .i64 (G.half : Nat)) := hB.cell 4; go_simp; try rfl)); simp only [Act.put, List.setIfInBounds_toArray, List.set_cons_succ, List.set_cons_zero]; go_big_quiet_on
    refine wpQuiet_nil ?_
    refine wpSteps_head ?_
    go_big_quiet_want; go_big_quiet_op; go_big_quiet_on
    refine wpQuiet_nil ?_
    refine wpSteps_more ?_
    go_wp2_with fail
    refine (first_any G.half HL.out.drew' HF.out HF.out.half).mono ?_
    rintro e w5 ⟨rfl, b5⟩
    have HL5 := Lib.hid (HL.out.drew'.bel b5)
    have HW5 := Lib.hid (HW.out.drew.trans (b5.mono HW.out.size))
    have HO5 := Lib.hid (own_stays HO.out (w' := w5) fun k hk => b5.block k (own_lt HO.out k hk))
    clear b5
    go_wp2_with fail
    refine ThenS.mk ((HS.out _).2 HL5.out.box) ?_
    refine wpSteps_head ?_
    go_big_quiet_want; apply quiet_value; (· (intro w' hw; go_simp; try rfl)); simp only [Act.put, List.setIfInBounds_toArray, List.set_cons_succ, List.set_cons_zero]; go_big_quiet_on
    refine wpQuiet_nil ?_
    refine wpSteps_more ?_
    go_wp2_with fail
    refine (read_any ((firstG G G.half + k : Nat) : Int) HL5.out.dsk HG.out).mono ?_
    rintro e w6 (⟨hne, _⟩ | ⟨_, X', hX', rfl, rfl⟩)
    · exact absurd HMAY.out hne
    have hXX : X' = X := by
      rw [Int.toNat_natCast, HXD.out] at hX'
      exact (Option.some.inj hX').symm
    rw [hXX]
    clear hX' hXX
    go_wp2_with fail
    refine ThenS.mk ((HS.out _).2 (HL5.out.box.alloc _)) ?_
    refine wpSteps_head ?_
    go_big_quiet_want; go_big_quiet_op; go_big_quiet_on
    refine wpQuiet_nil ?_
    refine wpSteps_head ?_
    go_big_quiet_want; apply quiet_value; (· (intro w' hw; go_simp; try rfl)); simp only [Act.put, List.setIfInBounds_toArray, List.set_cons_succ, List.set_cons_zero]; go_big_quiet_on
    refine wpQuiet_nil ?_
    refine wpSteps_head ?_
    go_big_quiet_want; apply quiet_value; (· (intro w' hw; go_simp; try rfl)); simp only [Act.put, List.setIfInBounds_toArray, List.set_cons_succ, List.set_cons_zero]; go_big_quiet_on
    refine wpQuiet_nil ?_
    refine wpSteps_head ?_
    go_big_quiet_want; go_big_quiet_op; go_big_quiet_on
    refine wpQuiet_nil ?_
    refine wpSteps_last ?_
    go_upto_region 6 with (fail)
    have HX6 := Box.new w5 81 (bc X).toArray
    have HSRC := Lib.hid (show Src (w5.alloc (.cells (bc X).toArray 81)) (some ⟨w5.heap.size, 0, none⟩) 64 1 (bc X) from ⟨by rw [bc_len, HX64.out], bc_one _, .inr ⟨_, rfl, fun j u hj => by rw [Addr.add_lit, Nat.zero_add, HX6.cell j]; simpa using hj⟩⟩)
    have HOX := Lib.hid (own_stays HO5.out (w' := w5.alloc (.cells (bc X).toArray 81)) fun k hk => Below.heap_alloc w5 _ k (own_lt HO5.out k hk))
    have HWX := Lib.hid (HW5.out.alloc HW5.out.size (.cells (bc X).toArray 81))
    have HSZ := Lib.hid HWX.out.size
    clear HX6 HL5 HO5 HW5 HL HO HW HS HMAY
    go_wp2_with (at_builtin; refine wpList_append_at rfl (.tmp 34) (.tmp 35) 32 rfl w.heap.size 5 i0 _ 1 1 Try.underlying32 HI.out HZZ.out hy1 hy2 rfl (by decide) _ _ _ rfl HOX.out _ _ _ _ rfl HSRC.out ?c2 ?c3 HSZ.out ?_)
    case c2 => unfold maxLen; omega
    case c3 => omega
    intro v7 w7 own7 g7 at7
    have hO7 : w7.ownsRow w.heap.size 5 1 v7 ((k + 1) * 64) (bc (secs D (firstG G G.half) (k + 1))) := by
      rw [secs_succ HXD.out, bc_app, Nat.succ_mul]
      exact own7
    have HB7 := Lib.hid (HWX.out.grown g7 HSZ.out (own_ge HOX.out))
    obtain ⟨a7, c7, rfl, hc7⟩ := own_shape own7
    obtain ⟨g, rfl, _, hgl, _⟩ := own_at own7 0 (by omega)
    have HO7 := Lib.hid hO7
    have HL7 := Lib.hid (HL0.out.bel HB7.out)
    have p5 : w7.cell? ⟨n, 5, none⟩ = some (.int .i64 (G.firm : Nat)) := HL7.out.box.cell 5
    have hn7 := HL7.out.box.lt
    clear own7 g7 at7 hO7 HOX HSRC HWX HSZ
    by_cases hge : G.firm ≤ k * 64 + 64
    · have hge2 : decide ((G.firm : Int) ≤ (k : Int) * 64 + 64) = true := decide_eq_true (by omega)
      have s1 := slice_to g ((k + 1) * 64) c7 G.firm (by omega)
      have s2 : ∀ W : World, (Instr.sliceAt 32 (.slice (some ⟨g, 0, none⟩) (k * 64 + 64) c7) none (some (.int .i64 (G.firm : Int))) none).run Try.prog W = .ok (.slice (some ⟨g, 0, none⟩) G.firm c7) W := slice_to g (k * 64 + 64) c7 G.firm (by omega)
      have hO7' : w7.ownsRow w.heap.size 5 1 (.slice (some ⟨g, 0, none⟩) ((k + 1) * 64) c7) ((k + 1) * 64) (bc (secs D (firstG G G.half) (k + 1))) := by have := HO7.out; rw [Nat.succ_mul] at this ⊢; exact this
      have hpre := own_prefix hO7' (show G.firm ≤ (k + 1) * 64 by omega)
      have hhb : (secs D (firstG G G.half) (k + 1)).take G.firm = (halfB D G).take G.firm := by
        unfold halfB
        rw [← secs_take HG.out (show k + 1 ≤ G.size by omega) HFL.out, List.take_take]
        congr 1
        omega
      have hbc : (bc (secs D (firstG G G.half) (k + 1))).take G.firm = bc ((halfB D G).take G.firm) := by rw [← hhb]; simp [bc, List.map_take]
      rw [hbc] at hpre
      obtain ⟨B, hBe⟩ : ∃ B, B = (halfB D G).take G.firm := ⟨_, rfl⟩
      rw [← hBe] at hpre
      have hBl : B.length = G.firm := by have := hpre.1; rw [bc_len] at this; omega
      obtain ⟨G1, hG1⟩ : ∃ G1 : Lg, G1 = { G with b := B } := ⟨_, rfl⟩
      have f6 := HL7.out.box.frozen 6
      have p6 : w7.cell? ⟨n, 6, none⟩ = some V.b := HL7.out.box.cell 6
      have HX8 := Lib.hid (show Box (w7.setCell ⟨n, 6, none⟩ (.slice (some ⟨g, 0, none⟩) G.firm c7)) n 71 (lcs nd ⟨.slice (some ⟨g, 0, none⟩) G.firm c7, V.a⟩ G1) from by rw [hG1]; exact HL7.out.box.set 6 _)
      have HP8 := Lib.hid (own_stays hpre (w' := w7.setCell ⟨n, 6, none⟩ (.slice (some ⟨g, 0, none⟩) G.firm c7)) fun k hk => Below.heap_setCell _ _ _ _ (by rintro rfl; exact own_box_ne hpre HL7.out.box (by decide) hk))
      have HT8 := Lib.hid (((Touch.of_below (S := (· = n)) HB7.out).setCell (p := ⟨n, 6, none⟩) rfl (.slice (some ⟨g, 0, none⟩) G.firm c7)))
      have HBE := Lib.hid hBe
      have HBL := Lib.hid hBl
      have HG1 := Lib.hid hG1
      clear hO7' hpre hhb hbc hBe hBl hG1 s1
      go_upto_region 12 with (fail)
      clear f6 p6 s2 p5 hn7
      refine wp_name (fun W => Box W n 71 (lcs nd ⟨.slice (some ⟨g, 0, none⟩) G.firm c7, V.a⟩ G1) ∧ W.ownsRow w.heap.size 5 1 (.slice (some ⟨g, 0, none⟩) G.firm c7) G.firm (bc B) ∧ Touch (· = n) w W) ⟨HX8.out, HP8.out, HT8.out⟩ ?_
      clear HX8 HP8 HT8 HL7 HB7 HO7
      rintro w8 ⟨hX8, hP8, hT8⟩
      have HX8 := Lib.hid hX8
      have HP8 := Lib.hid hP8
      have HT8 := Lib.hid hT8
      have hcf : G.firm ≤ c7 := by omega
      have C9 := Lib.hid (records_any (some ⟨g, 0, none⟩) G.firm c7 B (bys_own hP8 (by unfold maxLen; omega)) hcf (by omega))
      have q6 : w8.cell? ⟨n, 6, none⟩ = some (.slice (some ⟨g, 0, none⟩) G.firm c7) := hX8.cell 6
      have hn8 := hX8.lt
      clear hX8 hP8 hT8
      go_wp2_with fail
      refine C9.out.mono ?_
      rintro e w9 ⟨b9, ⟨hdn, rfl⟩ | ⟨all, v9, hda, rfl, hO9⟩⟩
      · have HT9 := Lib.hid (HT8.out.trans' b9)
        have HDN := Lib.hid hdn
        clear b9 hdn C9
        go_wp2_with fail
        rw [Exit.noGoto_ret]
        go_ret
        refine ⟨HT9.out, .inl ⟨?_, rfl⟩⟩
        rw [← HBE.out]
        exact HDN.out
      · obtain ⟨a9, c9, rfl, _⟩ := own_shape hO9
        have HT9 := Lib.hid (HT8.out.trans' b9)
        have HDA := Lib.hid hda
        have HO9 := Lib.hid hO9
        have HX9 := Lib.hid (HX8.out.below b9 HX8.out.lt)
        have HP9 := Lib.hid (own_stays HP8.out fun k hk => b9.block k (own_lt HP8.out k hk))
        have hws : w.heap.size ≤ w8.heap.size := HT8.out.size
        have p7 : w9.cell? ⟨n, 7, none⟩ = some V.a := HX9.out.cell 7
        have f7 := HX9.out.frozen 7
        have hn9 := HX9.out.lt
        clear b9 hda hO9 C9
        go_wp2_with fail
        rw [Exit.noGoto_ret]
        go_ret
        have hbx := HX9.out.set 7 (.slice a9 all.length c9)
        have hk9 : ∀ k, k < w.heap.size → k ≠ n → (w9.setCell ⟨n, 7, none⟩ (.slice a9 all.length c9)).heap[k]? = w.heap[k]? := fun k hk hne => (Below.heap_setCell _ _ _ _ hne).trans (HT9.out.block k hk hne)
        refine ⟨HT9.out.setCell (p := ⟨n, 7, none⟩) rfl _, .inr ⟨all, ⟨.slice (some ⟨g, 0, none⟩) G.firm c7, .slice a9 all.length c9⟩, by rw [← HBE.out]; exact HDA.out, rfl, ?_, ?_⟩⟩
        · rw [← HBE.out]
          refine HL0.out.rows hk9 _ (by rw [HG1.out] at hbx; exact hbx) ?_ ?_
          · show World.ownsRow _ base 5 1 _ B.length (bc B)
            rw [HBL.out]
            exact own_base' (own_stays HP9.out fun k hk => Below.heap_setCell _ _ _ _ (by rintro rfl; exact own_box_ne HP9.out HX9.out (by decide) hk)) hb
          · exact own_base' (own_stays HO9.out fun k hk => Below.heap_setCell _ _ _ _ (by rintro rfl; exact own_box_ne HO9.out HX9.out (by decide) hk)) (Nat.le_trans hb hws)
        · refine ⟨(HT9.out.setCell (p := ⟨n, 7, none⟩) rfl _).mono fun k _ e => .inl e, ?_⟩
          rintro k (h1 | h1 | h1 | h1)
          · exact .inl (.inl h1)
          · exact .inr (own_ge HP9.out k h1)
          · exact .inr (Nat.le_trans hws (own_ge HO9.out k h1))
          · exact .inl (.inr (.inr (.inr h1)))
    · have hge2 : ¬ (G.firm : Int) ≤ (k : Int) * 64 + 64 := by omega
      go_wp2_with fail
      go_roundw
      case rel =>
        refine ⟨k + 1, by omega, by go_num, .inr (by omega), ?_, HB7.out⟩
        have := HO7.out
        rw [Nat.succ_mul] at this ⊢
        exact this
      case measure => simp [intOf]; omega
end Go.Proofs.Ytdiboicllolcnaa
