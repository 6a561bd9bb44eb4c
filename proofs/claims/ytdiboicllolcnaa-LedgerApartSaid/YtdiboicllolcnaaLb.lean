/- ledger: a ledger as it lies in memory; first, bytes, Len, Room, did. Conditions: it lies in the call's own memory. -/
import Derived.Test.YtdiboicllolcnaaLa
import Derived.Deep.QuietTactic
import Derived.BigQuiet
namespace Go.Proofs.Ytdiboicllolcnaa
open Go Go.RowKit
set_option linter.unusedVariables false
set_option linter.unusedSimpArgs false

/-- a ledger. -/
structure Lg where
  from_ : Nat
  size : Nat
  mark : Nat
  half : Nat
  firm : Nat
  b : Sec
  all : List ByteArray
  dead : Bool
structure Vl where
  b : Value
  a : Value
abbrev lcs (nd : Nat) (V : Vl) (G : Lg) : Array Value := #[.pointer (some ⟨nd, 0, none⟩), .int .i64 (G.from_ : Nat), .int .i64 (G.size : Nat), .int .u64 (G.mark : Nat), .int .i64 (G.half : Nat), .int .i64 (G.firm : Nat), V.b, V.a, .bool G.dead]
variable {w w' : World} {base n nd : Nat} {V V' : Vl} {VD VD' : Vs} {D D' : Dk} {G G' : Lg}
/-- a ledger in memory, its disk as well. -/
structure Ldg (w : World) (base n nd : Nat) (V : Vl) (VD : Vs) (D : Dk) (G : Lg) : Prop where
  box : Box w n 71 (lcs nd V G)
  dsk : Dsk w base nd VD D
  rb : w.ownsRow base 5 1 V.b G.b.length (bc G.b)
  ra : w.ownsRow base 9 1 V.a G.all.length (G.all.map Value.string)
  hn : base ≤ n
/-- its blocks. -/
def OfL (n nd : Nat) (V : Vl) (VD : Vs) (k : Nat) : Prop := k = n ∨ V.b.ownBlock = some k ∨ V.a.ownBlock = some k ∨ Of nd VD k
theorem Ldg.stays (h : Ldg w base n nd V VD D G) (hk : ∀ k, k < w.heap.size → OfL n nd V VD k → w'.heap[k]? = w.heap[k]?) : Ldg w' base n nd V VD D G :=
  ⟨(hk n h.box.lt (.inl rfl)).trans h.box, h.dsk.stays fun k hl ho => hk k hl (.inr (.inr (.inr ho))), own_stays h.rb fun k hv => hk k (own_lt h.rb k hv) (.inr (.inl hv)), own_stays h.ra fun k hv => hk k (own_lt h.ra k hv) (.inr (.inr (.inl hv))), h.hn⟩
theorem Ldg.bel (h : Ldg w base n nd V VD D G) (hb : Below w.heap.size w w') : Ldg w' base n nd V VD D G := h.stays fun k hk _ => hb.block k hk
theorem Ldg.of_ge (h : Ldg w base n nd V VD D G) : ∀ k, OfL n nd V VD k → base ≤ k := by
  rintro k (rfl | hv | hv | hv)
  · exact h.hn
  · exact own_ge h.rb k hv
  · exact own_ge h.ra k hv
  · exact h.dsk.of_ge k hv
theorem Ldg.of_lt (h : Ldg w base n nd V VD D G) : ∀ k, OfL n nd V VD k → k < w.heap.size := by
  rintro k (rfl | hv | hv | hv)
  · exact h.box.lt
  · exact own_lt h.rb k hv
  · exact own_lt h.ra k hv
  · exact h.dsk.of_lt k hv
/-- a block of another type is none of the disk's. -/
theorem Dsk.notBox {b : Nat} {T : TypeId} {cs : Array Value} (h : Dsk w base nd VD D) (hb : Box w b T cs) (h1 : T ≠ 78) (h2 : T ≠ 81) (h3 : T ≠ 83) : ¬ Of nd VD b := by
  rintro (rfl | hv | hv | hv)
  · have h5 := h.box
    unfold Box at hb h5
    rw [hb] at h5
    simp at h5
    exact h1 h5.2
  · exact own_box_ne h.rn hb (Ne.symm h2) hv
  · exact own_box_ne h.rf hb (Ne.symm h2) hv
  · exact own_box_ne h.rw hb (Ne.symm h3) hv
theorem Dsk.notRow {b1 e s m k : Nat} {v : Value} {xs : List Value} (h : Dsk w base nd VD D) (ho : w.ownsRow b1 e s v m xs) (h1 : e ≠ 78) (h2 : e ≠ 81) (h3 : e ≠ 83) (hk : v.ownBlock = some k) : ¬ Of nd VD k := by
  rintro (rfl | hv | hv | hv)
  · exact own_box_ne ho h.box h1 hk
  · exact own_own_ne h.rn ho (Ne.symm h2) k hv hk
  · exact own_own_ne h.rf ho (Ne.symm h2) k hv hk
  · exact own_own_ne h.rw ho (Ne.symm h3) k hv hk
/-- what a call on a ledger leaves. -/
structure GoesL (w w' : World) (n nd : Nat) (V V' : Vl) (VD VD' : Vs) : Prop where
  touch : Touch (OfL n nd V VD) w w'
  lies : ∀ k, OfL n nd V' VD' k → OfL n nd V VD k ∨ w.heap.size ≤ k
theorem GoesL.of_below (h : Below w.heap.size w w') : GoesL w w' n nd V V VD VD := ⟨Touch.of_below h, fun _ hk => .inl hk⟩
theorem GoesL.trans {w'' : World} {V'' : Vl} {VD'' : Vs} (h : GoesL w w' n nd V V' VD VD') (k : GoesL w' w'' n nd V' V'' VD' VD'') : GoesL w w'' n nd V V'' VD VD'' := by
  refine ⟨⟨k.touch.os.trans h.touch.os, k.touch.tape.trans h.touch.tape, k.touch.output.trans h.touch.output, Nat.le_trans h.touch.size k.touch.size, fun i hi hn => ?_⟩, fun i hv => ?_⟩
  · refine (k.touch.block i (Nat.lt_of_lt_of_le hi h.touch.size) (fun ho => ?_)).trans (h.touch.block i hi hn)
    rcases h.lies i ho with h1 | h1
    · exact hn h1
    · omega
  · rcases k.lies i hv with h1 | h1
    · exact h.lies i h1
    · exact .inr (Nat.le_trans h.touch.size h1)
theorem GoesL.below_r {w'' : World} (h : GoesL w w' n nd V V' VD VD') (k : Below w'.heap.size w' w'') : GoesL w w'' n nd V V' VD VD' := h.trans (GoesL.of_below k)
theorem GoesL.below {B : Nat} {w0 : World} (h : GoesL w w' n nd V V' VD VD') (hb : Below B w0 w) (hB : B ≤ w0.heap.size) (hg : ∀ k, OfL n nd V VD k → B ≤ k) : Below B w0 w' :=
  Below.touch hb h.touch hB hg
/-- the disk alone goes on. -/
theorem Ldg.disk (h : Ldg w base n nd V VD D G) (hd : Dsk w' base nd VD' D') (hg : Goes w w' nd VD VD') : Ldg w' base n nd V VD' D' G :=
  ⟨h.box.touch hg.touch (h.dsk.notBox h.box (by decide) (by decide) (by decide)), hd, own_touch h.rb hg.touch (fun b hb => h.dsk.notRow h.rb (by decide) (by decide) (by decide) hb), own_touch h.ra hg.touch (fun b hb => h.dsk.notRow h.ra (by decide) (by decide) (by decide) hb), h.hn⟩
theorem GoesL.disk (hg : Goes w w' nd VD VD') : GoesL w w' n nd V V VD VD' := by
  refine ⟨hg.touch.mono fun k _ h => .inr (.inr (.inr h)), ?_⟩
  rintro k (h | h | h | h)
  · exact .inl (.inl h)
  · exact .inl (.inr (.inl h))
  · exact .inl (.inr (.inr (.inl h)))
  · rcases hg.lies k h with h1 | h1
    · exact .inl (.inr (.inr (.inr h1)))
    · exact .inr h1
/-- a scalar of the ledger is put. -/
theorem Ldg.put (h : Ldg w base n nd V VD D G) (j : Nat) (u : Value) (G' : Lg) (he : (lcs nd V G).setIfInBounds j u = lcs nd V G') (h1 : G'.b = G.b) (h2 : G'.all = G.all) : Ldg (w.setCell ⟨n, j, none⟩ u) base n nd V VD D G' := by
  have hs : ∀ k, k ≠ n → (w.setCell ⟨n, j, none⟩ u).heap[k]? = w.heap[k]? := fun k hk => Below.heap_setCell _ _ _ _ hk
  refine ⟨by rw [← he]; exact h.box.set j u, h.dsk.stays fun k hk ho => hs k (by rintro rfl; exact h.dsk.notBox h.box (by decide) (by decide) (by decide) ho), ?_, ?_, h.hn⟩
  · rw [h1]; exact own_stays h.rb fun k hk => hs k (by rintro rfl; exact own_box_ne h.rb h.box (by decide) hk)
  · rw [h2]; exact own_stays h.ra fun k hk => hs k (by rintro rfl; exact own_box_ne h.ra h.box (by decide) hk)
theorem GoesL.put (j : Nat) (u : Value) : GoesL w (w.setCell ⟨n, j, none⟩ u) n nd V V VD VD := ⟨(Touch.refl _ w).setCell (.inl rfl) u, fun _ h => .inl h⟩
/-- the places are in their bounds. -/
structure Fits (G : Lg) (D : Dk) : Prop where
  size0 : 1 ≤ G.size
  size : G.from_ + 2 + 2 * G.size ≤ D.now.length
  disk : D.now.length ≤ 65536
  half : G.half < 2
  b : G.b.length ≤ G.size * 64
def firstG (G : Lg) (half : Nat) : Nat := G.from_ + 2 + half * G.size
theorem first_any (half : Nat) (h : Ldg w base n nd V VD D G) (hf : Fits G D) (hh : half < 2) : Calls Try.prog 47 #[.pointer (some ⟨n, 0, none⟩), .int .i64 half] w fun e w' => e = .returned (.int .i64 (firstG G half : Nat)) ∧ Below w.heap.size w w' := by
  have p1 : w.cell? ⟨n, 1, none⟩ = some (.int .i64 (G.from_ : Nat)) := h.box.cell 1
  have p2 : w.cell? ⟨n, 2, none⟩ = some (.int .i64 (G.size : Nat)) := h.box.cell 2
  have hn := h.box.lt
  have h1 := hf.size
  have h2 := hf.disk
  have hs : half * G.size ≤ 65536 := by
    have : half * G.size ≤ 1 * G.size := Nat.mul_le_mul_right _ (by omega)
    omega
  obtain ⟨M, hM⟩ : ∃ M, half * G.size = M := ⟨_, rfl⟩
  have hMi : (half : Int) * (G.size : Int) = (M : Int) := by rw [← hM]; exact (Int.natCast_mul _ _).symm
  have hw : IntKind.i64.wrap ((half : Int) * (G.size : Int)) = (M : Int) := by rw [hMi, IntKind.wrap_i64]; omega
  have hw2 : IntKind.i64.wrap ((G.from_ : Int) + 2) = (G.from_ : Int) + 2 := by rw [IntKind.wrap_i64]; omega
  have hw3 : IntKind.i64.wrap ((G.from_ : Int) + 2 + (M : Int)) = (G.from_ : Int) + 2 + (M : Int) := by rw [IntKind.wrap_i64]; omega
  have HE := Lib.hid (show ((firstG G half : Nat) : Int) = (G.from_ : Int) + 2 + (M : Int) by unfold firstG; omega)
  clear h hf hM hMi
  go_enter Try.func47, Try.ntmps47
  go_wp2_with fail
  go_quiet (fail)
  go_wp2_with fail
  go_ret
  exact ⟨by rw [HE.out]; rfl, Below.drewN (Below.refl _ _) nq⟩
theorem bytes_any (h : Ldg w base n nd V VD D G) (hf : Fits G D) : Calls Try.prog 32 #[.pointer (some ⟨n, 0, none⟩)] w fun e w' => e = .returned (.int .i64 (G.size * 64 : Nat)) ∧ w = w' := by
  have p2 : w.cell? ⟨n, 2, none⟩ = some (.int .i64 (G.size : Nat)) := h.box.cell 2
  have hn := h.box.lt
  have h1 := hf.size
  have h2 := hf.disk
  clear h hf
  go_enter Try.func32, Try.ntmps32
  go_wp2
  go_ret
  exact ⟨by go_num, rfl⟩
theorem llen_any (h : Ldg w base n nd V VD D G) : Calls Try.prog 26 #[.pointer (some ⟨n, 0, none⟩)] w fun e w' => e = .returned (.int .i64 (G.all.length : Nat)) ∧ w = w' := by
  have p7 : w.cell? ⟨n, 7, none⟩ = some V.a := h.box.cell 7
  obtain ⟨ad, c, hv, _⟩ := own_shape h.ra
  rw [hv] at p7
  have hn := h.box.lt
  clear h hv
  go_enter Try.func26, Try.ntmps26
  go_wp2
  go_ret
  exact ⟨rfl, rfl⟩
def roomI (G : Lg) : Int := max (min (((G.size * 64 : Nat) : Int) - (G.b.length : Nat) - 4) 4096) (-1)
theorem room_any (h : Ldg w base n nd V VD D G) (hf : Fits G D) : Calls Try.prog 13 #[.pointer (some ⟨n, 0, none⟩)] w fun e w' => e = .returned (.int .i64 (roomI G)) ∧ Below w.heap.size w w' := by
  obtain ⟨ad, c, hv, _⟩ := own_shape h.rb
  have HBX := Lib.hid h.box
  have HV := Lib.hid hv
  have h1 := hf.size
  have h2 := hf.disk
  have h3 := hf.b
  obtain ⟨S, hS⟩ : ∃ S, G.size * 64 = S := ⟨_, rfl⟩
  have hC : ∀ w1, Below w.heap.size w w1 → Calls Try.prog 32 #[.pointer (some ⟨n, 0, none⟩)] w1 fun e w' => e = .returned (.int .i64 (S : Int)) ∧ w1 = w' := fun w1 b1 => by
    have := bytes_any (h.bel b1) hf
    rw [hS] at this
    exact this
  have C := Lib.hid hC
  have HR := Lib.hid (show roomI G = max (min ((S : Int) - (G.b.length : Int) - 4) 4096) (-1) by unfold roomI; rw [hS])
  rw [hS] at h3
  have hSb : S ≤ 4194304 := by omega
  have hw1 : IntKind.i64.wrap ((S : Int) - (G.b.length : Int)) = (S : Int) - (G.b.length : Int) := by rw [IntKind.wrap_i64]; omega
  have hw2 : IntKind.i64.wrap ((S : Int) - (G.b.length : Int) - 4) = (S : Int) - (G.b.length : Int) - 4 := by rw [IntKind.wrap_i64]; omega
  clear h hf hv hS hC
  go_enter Try.func13, Try.ntmps13
  go_wp2_with fail
  refine wp_region_below (w0 := w) (B := w.heap.size) (by kernel_rfl) (by kernel_rfl) (Below.refl _ _) ?_
  go_big_quiet_want; go_big_quiet_op; go_big_quiet_on
  go_big_quiet_want; apply quiet_call (f := 32) (v := .int .i64 (S : Int)); (· (intro w hw; go_simp; try rfl)); (· (intro w1 b1; exact in_class (C.out w1 b1) b1)); simp only [Act.put, List.setIfInBounds_toArray, List.set_cons_succ, List.set_cons_zero]; go_big_quiet_on
  go_big_quiet_want; go_big_quiet_op; go_big_quiet_on
  go_big_quiet_want; apply quiet_value; (· (intro w hw; have hB := HBX.out.below hw HBX.out.lt; have hbl := hB.lt; go_simp; try rfl)); simp only [Act.put, List.setIfInBounds_toArray, List.set_cons_succ, List.set_cons_zero]; go_big_quiet_on
  go_big_quiet_want; apply quiet_value; (· (intro w hw; have hB := HBX.out.below hw HBX.out.lt; have hbl := hB.lt; go_simp; try rfl)); simp only [Act.put, List.setIfInBounds_toArray, List.set_cons_succ, List.set_cons_zero]; go_big_quiet_on
  go_big_quiet_want; apply quiet_value; (· (intro w hw; have hB := HBX.out.below hw HBX.out.lt; have hbl := hB.lt; have p6 : w.cell? ⟨n, 6, none⟩ = some (.slice ad G.b.length c) := (hB.cell 6).trans (congrArg some HV.out); go_simp; try rfl)); simp only [Act.put, List.setIfInBounds_toArray, List.set_cons_succ, List.set_cons_zero]; go_big_quiet_on
  go_big_quiet_want; apply quiet_value; (· (intro w hw; go_simp; try rfl)); simp only [Act.put, List.setIfInBounds_toArray, List.set_cons_succ, List.set_cons_zero]; go_big_quiet_on
  go_big_quiet_want; apply quiet_value (v := .int .i64 ((S : Int) - (G.b.length : Int))); (· (intro w hw; go_simp; try rfl)); simp only [Act.put, List.setIfInBounds_toArray, List.set_cons_succ, List.set_cons_zero]; go_big_quiet_on
  go_big_quiet_want; apply quiet_value (v := .int .i64 ((S : Int) - (G.b.length : Int) - 4)); (· (intro w hw; go_simp; try rfl)); simp only [Act.put, List.setIfInBounds_toArray, List.set_cons_succ, List.set_cons_zero]; go_big_quiet_on
  go_big_quiet_want; go_big_quiet_op; go_big_quiet_on
  refine wpQuiet_nil ?_
  intro w1 b1
  go_wp2_with fail
  all_goals
    go_ret
    refine ⟨?_, b1⟩
    rw [HR.out]
    show Ending.returned (Value.int .i64 _) = _
    congr 2
    omega
end Go.Proofs.Ytdiboicllolcnaa
