/- ledger: seal. Conditions: the ledger lies in the call's own memory. -/
import Derived.Test.YtdiboicllolcnaaLk
namespace Go.Proofs.Ytdiboicllolcnaa
open Go Go.RowKit
set_option linter.unusedVariables false
set_option linter.unusedSimpArgs false
variable {w w' : World} {base n nd b0 : Nat} {V V' : Vl} {VD VD' : Vs} {D D' : Dk} {G G' : Lg}
theorem wpl_name {P : Program} {ops : Array Oper} {l : List Oper} {Q : Exit → Act → World → Prop} {a : Act} {w : World} (F : World → Prop) (hF : F w) (h : ∀ W, F W → wpList P ops Q l a W) : wpList P ops Q l a w := h w hF
theorem copied {w0 : World} {b b' B : Nat} {T T' : TypeId} {s x : Sec} {off : Nat} {new cs : Array Value} (HX : Box w b T (bc s).toArray) (hnew : Hid (new = ((bc s).toArray.toList.take off ++ bc x ++ (bc s).toArray.toList.drop (off + (bc x).length)).toArray)) (r : Sec) (hr : s.take off ++ x ++ s.drop (off + x.length) = r) (HO : Box w b' T' cs) (hne : b' ≠ b) (hB : Below B w0 w) (hB' : B ≤ b) :
    Box (w.setRow b new) b' T' cs ∧ Box (w.setRow b new) b T (bc r).toArray ∧ Below B w0 (w.setRow b new) := by
  refine ⟨(setRow_other w b b' new hne).trans HO, ?_, Below.setRow hB hB' new⟩
  have h1 := setRow_heap w b _ new T (0, 0) HX
  have e : new = (bc r).toArray := by
    rw [hnew.out, ← hr, bc_app, bc_app, bc_len]
    simp [bc, List.map_take, List.map_drop]
  rw [e] at h1 ⊢
  exact h1
theorem box_heap {b : Nat} {T : TypeId} {cs : Array Value} (h : Box w b T cs) : w.heap[b]? = some (.cells cs T (0, 0)) := h
theorem byte_set {b : Nat} {T : TypeId} {s : Sec} (h : Box w b T (bc s).toArray) (k : Nat) (x : UInt8) : Box (w.setCell ⟨b, k, none⟩ (.int .u8 x.toNat)) b T (bc (s.set k x)).toArray := by
  have h1 := h.set k (.int .u8 x.toNat)
  rw [List.setIfInBounds_toArray] at h1
  rw [bc, List.map_set]
  exact h1
theorem Bys.drew {ad : Option Addr} {len : Nat} {b : Sec} (h : Bys w ad len b) : Bys w.drew ad len b := h
theorem sync_val (D : Dk) : syncE D = 0 ∨ syncE D = 40 := by
  unfold syncE
  split
  · exact .inr rfl
  · split
    · exact .inr rfl
    · exact .inl rfl
theorem wr_val (D : Dk) (k : Int) (m : Nat) : wrE D k m = 0 ∨ wrE D k m = 40 ∨ wrE D k m = 41 := by
  unfold wrE
  have hv := may_val D k
  split
  · exact hv
  · split
    · exact .inr (.inr rfl)
    · split
      · exact .inr (.inl rfl)
      · exact .inl rfl
theorem sync_wait (D : Dk) : (syncD D).wait.length ≤ D.wait.length := by
  have hn : (diesD D).wait = D.wait := by unfold diesD; split <;> rfl
  unfold syncD
  split
  · exact Nat.le_refl _
  · split
    · rw [hn]; exact Nat.le_refl _
    · exact Nat.zero_le _
theorem wrD_wait (D : Dk) (k : Int) (b : Sec) : (wrD D k b).wait.length ≤ D.wait.length + 1 := by
  unfold wrD
  split
  · omega
  · have hn : (diesD (putD D k.toNat (pad b))).wait = (putD D k.toNat (pad b)).wait := by unfold diesD; split <;> rfl
    rw [hn]; simp [putD]
theorem good_wrD (h : Good D) (k : Int) (b : Sec) : Good (wrD D k b) := by
  unfold wrD
  split
  · exact h
  · rename_i hno
    have hk : mayE D k = 0 := Classical.byContradiction fun e => hno (.inl e)
    obtain ⟨_, h0, h1⟩ := may_zero hk
    exact good_dies (good_put h k.toNat (pad b) (by omega) (pad_len (by omega)))
set_option maxRecDepth 100000 in
set_option maxHeartbeats 8000000 in
theorem seal_any (half firm : Nat) (h : Ldg w base n nd V VD D G) (hb : base ≤ w.heap.size) (hf : Fits G D) (hg : Good D) (hG : G.dead = false) (hd : D.dead = false) (hh : half < 2) (hfm : firm ≤ 4194304) (hwl : D.wait.length ≤ 900000) :
    Calls Try.prog 42 #[.pointer (some ⟨n, 0, none⟩), .int .i64 half, .int .i64 firm] w (SealPost w base n nd V VD D G half firm) := by
  have HL := Lib.hid h
  have HF := Lib.hid hf
  have HGD := Lib.hid hg
  have HD := Lib.hid hd
  have HY := Lib.hid hG
  have p0 : w.cell? ⟨n, 0, none⟩ = some (.pointer (some ⟨nd, 0, none⟩)) := h.box.cell 0
  have hbl := h.box.lt
  have C := Lib.hid (sync_any h.dsk hb hg (by omega))
  clear h hf hg hd hG
  go_enter Try.func42, Try.ntmps42
  go_wp2_with fail
  refine C.out.mono ?_
  rintro e w1 ⟨rfl, VD1, d1, g1⟩
  have hL1 := HL.out.disk d1 g1
  have HG1 := Lib.hid (GoesL.disk (V := V) (n := n) g1)
  have hbl1 := hL1.box.lt
  clear d1 g1 C p0 hbl
  go_wp2_with fail
  refine (did_any (syncE D) hL1).mono ?_
  rintro e w2 ⟨rfl, L2, g2, t2⟩
  have HG2 := Lib.hid (HG1.out.trans g2)
  by_cases he : syncE D = 0
  · have e1 : didE G (syncE D) = 0 := by unfold didE; rw [HY.out, he]; rfl
    have e2 : didG G (syncE D) = G := by unfold didG; rw [he]; simp
    rw [e1]
    rw [e2] at L2
    have HL2 := Lib.hid L2
    have p3 : w2.cell? ⟨n, 3, none⟩ = some (.int .u64 (G.mark : Nat)) := L2.box.cell 3
    have hbl2 := L2.box.lt
    clear L2 g2 t2 e1 e2 hL1
    obtain ⟨N, hN⟩ : ∃ N, N = nextM G.mark := ⟨_, rfl⟩
    have qN : IntKind.u64.wrap ((G.mark : Int) + 1) = (N : Int) := by rw [hN]; exact nextM_wrap _
    have hNl : (N : Int) ≤ 18446744073709551615 := by have := nextM_lt G.mark; omega
    have CL := Lib.hid (lay_any (w := w2) N hNl)
    have HNB := Lib.hid hNl
    have HN := Lib.hid hN
    clear hN hNl
    go_wp2_with fail
    refine CL.out.mono ?_
    rintro e w3 ⟨rfl, b3⟩
    have HL3 := Lib.hid (HL2.out.bel b3)
    have HG3 := Lib.hid (HG2.out.below_r b3)
    have p3 : w3.cell? ⟨n, 3, none⟩ = some (.int .u64 (G.mark : Nat)) := HL3.out.box.cell 3
    have hbl3 := HL3.out.box.lt
    clear b3 CL hbl2
    go_wp2_with (refine wpList_store_box rfl 93 (.tmp 7) (.tmp 22) rfl rfl w3.heap.size 0 rfl (bc (be8 N)) rfl (Box.new w3 93 _) (bc (be8 N)).toArray (by simp [be8, bc]) (by kernel_rfl) (by simp [be8, bc]) (by simp [be8, bc, Value.oneCell']) ?_; rw [World.setRow_alloc_new])
    have HQ7 := Lib.hid (show Box ((w3.alloc (.cells (bc (be8 N)).toArray 93)).alloc (.cells #[.int .u8 0, .int .u8 0, .int .u8 0, .int .u8 0, .int .u8 0, .int .u8 0, .int .u8 0, .int .u8 0, .int .u8 0, .int .u8 0, .int .u8 0, .int .u8 0, .int .u8 0, .int .u8 0, .int .u8 0, .int .u8 0, .int .u8 0, .int .u8 0, .int .u8 0, .int .u8 0, .int .u8 0, .int .u8 0, .int .u8 0, .int .u8 0, .int .u8 0, .int .u8 0, .int .u8 0, .int .u8 0, .int .u8 0, .int .u8 0, .int .u8 0, .int .u8 0, .int .u8 0, .int .u8 0, .int .u8 0, .int .u8 0, .int .u8 0, .int .u8 0, .int .u8 0, .int .u8 0, .int .u8 0, .int .u8 0, .int .u8 0, .int .u8 0, .int .u8 0, .int .u8 0, .int .u8 0, .int .u8 0, .int .u8 0, .int .u8 0, .int .u8 0, .int .u8 0, .int .u8 0, .int .u8 0, .int .u8 0, .int .u8 0, .int .u8 0, .int .u8 0, .int .u8 0, .int .u8 0, .int .u8 0, .int .u8 0, .int .u8 0, .int .u8 0] 80)) w3.heap.size 93 (bc (be8 N)).toArray from (Box.new w3 93 _).alloc _)
    have HQ8 := Lib.hid (show Box ((w3.alloc (.cells (bc (be8 N)).toArray 93)).alloc (.cells #[.int .u8 0, .int .u8 0, .int .u8 0, .int .u8 0, .int .u8 0, .int .u8 0, .int .u8 0, .int .u8 0, .int .u8 0, .int .u8 0, .int .u8 0, .int .u8 0, .int .u8 0, .int .u8 0, .int .u8 0, .int .u8 0, .int .u8 0, .int .u8 0, .int .u8 0, .int .u8 0, .int .u8 0, .int .u8 0, .int .u8 0, .int .u8 0, .int .u8 0, .int .u8 0, .int .u8 0, .int .u8 0, .int .u8 0, .int .u8 0, .int .u8 0, .int .u8 0, .int .u8 0, .int .u8 0, .int .u8 0, .int .u8 0, .int .u8 0, .int .u8 0, .int .u8 0, .int .u8 0, .int .u8 0, .int .u8 0, .int .u8 0, .int .u8 0, .int .u8 0, .int .u8 0, .int .u8 0, .int .u8 0, .int .u8 0, .int .u8 0, .int .u8 0, .int .u8 0, .int .u8 0, .int .u8 0, .int .u8 0, .int .u8 0, .int .u8 0, .int .u8 0, .int .u8 0, .int .u8 0, .int .u8 0, .int .u8 0, .int .u8 0, .int .u8 0] 80)) (w3.heap.size + 1) 80 (bc (List.replicate 64 0)).toArray from by have h0 := Box.new (w3.alloc (.cells (bc (be8 N)).toArray 93)) 80 #[.int .u8 0, .int .u8 0, .int .u8 0, .int .u8 0, .int .u8 0, .int .u8 0, .int .u8 0, .int .u8 0, .int .u8 0, .int .u8 0, .int .u8 0, .int .u8 0, .int .u8 0, .int .u8 0, .int .u8 0, .int .u8 0, .int .u8 0, .int .u8 0, .int .u8 0, .int .u8 0, .int .u8 0, .int .u8 0, .int .u8 0, .int .u8 0, .int .u8 0, .int .u8 0, .int .u8 0, .int .u8 0, .int .u8 0, .int .u8 0, .int .u8 0, .int .u8 0, .int .u8 0, .int .u8 0, .int .u8 0, .int .u8 0, .int .u8 0, .int .u8 0, .int .u8 0, .int .u8 0, .int .u8 0, .int .u8 0, .int .u8 0, .int .u8 0, .int .u8 0, .int .u8 0, .int .u8 0, .int .u8 0, .int .u8 0, .int .u8 0, .int .u8 0, .int .u8 0, .int .u8 0, .int .u8 0, .int .u8 0, .int .u8 0, .int .u8 0, .int .u8 0, .int .u8 0, .int .u8 0, .int .u8 0, .int .u8 0, .int .u8 0, .int .u8 0]; rw [World.size_alloc] at h0; exact h0)
    have HQB := Lib.hid (show Below w3.heap.size w3 ((w3.alloc (.cells (bc (be8 N)).toArray 93)).alloc (.cells #[.int .u8 0, .int .u8 0, .int .u8 0, .int .u8 0, .int .u8 0, .int .u8 0, .int .u8 0, .int .u8 0, .int .u8 0, .int .u8 0, .int .u8 0, .int .u8 0, .int .u8 0, .int .u8 0, .int .u8 0, .int .u8 0, .int .u8 0, .int .u8 0, .int .u8 0, .int .u8 0, .int .u8 0, .int .u8 0, .int .u8 0, .int .u8 0, .int .u8 0, .int .u8 0, .int .u8 0, .int .u8 0, .int .u8 0, .int .u8 0, .int .u8 0, .int .u8 0, .int .u8 0, .int .u8 0, .int .u8 0, .int .u8 0, .int .u8 0, .int .u8 0, .int .u8 0, .int .u8 0, .int .u8 0, .int .u8 0, .int .u8 0, .int .u8 0, .int .u8 0, .int .u8 0, .int .u8 0, .int .u8 0, .int .u8 0, .int .u8 0, .int .u8 0, .int .u8 0, .int .u8 0, .int .u8 0, .int .u8 0, .int .u8 0, .int .u8 0, .int .u8 0, .int .u8 0, .int .u8 0, .int .u8 0, .int .u8 0, .int .u8 0, .int .u8 0] 80)) from ((Below.refl _ _).alloc (Nat.le_refl _) _).alloc (by simp) _)
    refine wp_name (fun W => Box W w3.heap.size 93 (bc (be8 N)).toArray ∧ Box W (w3.heap.size + 1) 80 (bc (List.replicate 64 0)).toArray ∧ Below w3.heap.size w3 W) ⟨HQ7.out, HQ8.out, HQB.out⟩ ?_
    clear HQ7 HQ8 HQB
    rintro w4 ⟨q7, q8, qb⟩
    obtain ⟨b7, hb7⟩ : ∃ b7, b7 = w3.heap.size := ⟨_, rfl⟩
    obtain ⟨b8, hb8⟩ : ∃ b8, b8 = w3.heap.size + 1 := ⟨_, rfl⟩
    rw [← hb7] at q7
    rw [← hb8] at q8
    rw [← hb8, ← hb7]
    have HB7 := Lib.hid q7
    have HB8 := Lib.hid q8
    have HQB := Lib.hid qb
    have HNE := Lib.hid (show b7 ≠ b8 by omega)
    have HBB := Lib.hid (show w3.heap.size ≤ b8 by omega)
    clear q7 q8 qb hb7 hb8 p3
    refine wp_region_phase (fun _ => True) [true, true, false] 2 _ _ _ (by kernel_rfl) rfl rfl (by kernel_rfl) rfl rfl (fun _ _ _ _ _ h => h) trivial ?_
    intro S HS
    simp only [taken, leftOut]
    go_big_quiet_want; apply quiet_value; (· (intro w' hw; go_simp; try rfl)); simp only [Act.put, List.setIfInBounds_toArray, List.set_cons_succ, List.set_cons_zero]; go_big_quiet_on
    go_big_quiet_want; apply quiet_value; (· (intro w' hw; go_simp; try rfl)); simp only [Act.put, List.setIfInBounds_toArray, List.set_cons_succ, List.set_cons_zero]; go_big_quiet_on
    refine wpQuiet_nil ?_
    refine wpTail_last ?_
    clear HS
    clear S
    refine wpList_copy_row rfl (.tmp 23) (.tmp 24) 32 32 rfl 5 1 Try.underlying32 isz5 b8 0 64 64 _ 80 HB8.out.drew rfl ⟨b7, 0, none⟩ 8 8 (bc (be8 N)) rfl rfl ?c1a ?c2a (bc_one _) ?_
    case c1a => intro j v hj; rw [Addr.add_lit, Nat.zero_add, HB7.out.drew.cell j]; simpa using hj
    case c2a => simp [bc_len, be8_len, be4_len]
    intro new hnew
    refine wpl_name (fun W => Box W b7 93 (bc (be8 N)).toArray ∧ Box W b8 80 (bc (be8 N ++ List.replicate 56 0)).toArray ∧ Below w3.heap.size w3 W) (copied HB8.out.drew hnew _ rfl HB7.out.drew HNE.out HQB.out.drew HBB.out) ?_
    clear hnew HB7 HB8 HQB
    clear new
    rintro w5 ⟨q7, q8, qb⟩
    have q88 : w5.cell? ⟨b8, 8, none⟩ = some (.int .u8 0) := by rw [q8.cell 8]; rfl
    have f88 := q8.frozen 8
    have hfm0 : (firm : Int) / 16777216 = 0 := by omega
    have hl8 : b8 < w5.heap.size := q8.lt
    have x5 := byte_set q8 8 (UInt8.ofNat half)
    rw [show ((UInt8.ofNat half).toNat : Int) = (half : Int) by rw [UInt8.toNat_ofNat']; omega] at x5
    have sz5 : (w5.setCell ⟨b8, 8, none⟩ (.int .u8 half)).heap.size = w5.heap.size := by simp [World.setCell]
    have HX8 := Lib.hid (x5.alloc (.cells #[.int .u8 0, .int .u8 ((firm : Int) / 65536), .int .u8 ((firm : Int) / 256 % 256), .int .u8 ((firm : Int) % 256)] 5))
    have HX9 := Lib.hid (box_heap HX8.out)
    have HX7 := Lib.hid ((q7.set_other (p := ⟨b8, 8, none⟩) HNE.out (.int .u8 half)).alloc (.cells #[.int .u8 0, .int .u8 ((firm : Int) / 65536), .int .u8 ((firm : Int) / 256 % 256), .int .u8 ((firm : Int) % 256)] 5))
    have HXF := Lib.hid (show Box ((w5.setCell ⟨b8, 8, none⟩ (.int .u8 half)).alloc (.cells #[.int .u8 0, .int .u8 ((firm : Int) / 65536), .int .u8 ((firm : Int) / 256 % 256), .int .u8 ((firm : Int) % 256)] 5)) w5.heap.size 5 (bc (be4 firm)).toArray by
      have h0 := Box.new (w5.setCell ⟨b8, 8, none⟩ (.int .u8 half)) 5 #[.int .u8 0, .int .u8 ((firm : Int) / 65536), .int .u8 ((firm : Int) / 256 % 256), .int .u8 ((firm : Int) % 256)]
      rw [sz5] at h0
      have e : (bc (be4 firm)).toArray = #[.int .u8 0, .int .u8 ((firm : Int) / 65536), .int .u8 ((firm : Int) / 256 % 256), .int .u8 ((firm : Int) % 256)] := by
        rw [bc_be4, show (firm : Int) / 16777216 % 256 = 0 by omega, show (firm : Int) / 65536 % 256 = (firm : Int) / 65536 by omega]
      rw [e]; exact h0)
    have HXB := Lib.hid ((qb.setCell (p := ⟨b8, 8, none⟩) HBB.out (.int .u8 half)).alloc (by rw [sz5]; exact qb.size) (.cells #[.int .u8 0, .int .u8 ((firm : Int) / 65536), .int .u8 ((firm : Int) / 256 % 256), .int .u8 ((firm : Int) % 256)] 5))
    clear q7 q8 qb x5 sz5
    go_wp2_with (with_reducible refine wpList_copy_row rfl (.tmp 29) (.tmp 41) 32 32 rfl 5 1 Try.underlying32 isz5 b8 9 4 55 _ 80 HX9.out rfl ⟨w5.heap.size, 0, none⟩ 4 4 (bc (be4 firm)) rfl rfl ?d1 ?d2 (bc_one _) ?_)
    case d1 => intro j v hj; rw [Addr.add_lit, Nat.zero_add, HXF.out.cell j]; simpa using hj
    case d2 => simp [bc_len, be8_len, be4_len]
    intro new hnew
    have hcp := copied (off := 9) (s := (be8 N ++ List.replicate 56 0).set 8 (UInt8.ofNat half)) (x := be4 firm) HX8.out hnew _ rfl HX7.out HNE.out HXB.out HBB.out
    refine wpl_name (fun W => Box W b7 93 (bc (be8 N)).toArray ∧ Box W b8 80 (bc (((be8 N ++ List.replicate 56 0).set 8 (UInt8.ofNat half)).take 9 ++ be4 firm ++ ((be8 N ++ List.replicate 56 0).set 8 (UInt8.ofNat half)).drop 13)).toArray ∧ Below w3.heap.size w3 W) hcp ?_
    clear hcp hnew HX7 HX8 HX9 HXF HXB q88 f88 hl8
    clear new
    rintro w6 ⟨q7, q8, qb⟩
    have HB7 := Lib.hid q7
    have HB8 := Lib.hid q8
    have HQB := Lib.hid qb
    clear q7 q8 qb hfm0
    go_wp2_with fail
    refine wp_region_phase (fun _ => True) [true, true, false] 2 _ _ _ (by kernel_rfl) rfl rfl (by kernel_rfl) rfl rfl (fun _ _ _ _ _ h => h) trivial ?_
    intro S HS
    simp only [taken, leftOut]
    go_big_quiet_want; apply quiet_value; (· (intro w' hw; go_simp; try rfl)); simp only [Act.put, List.setIfInBounds_toArray, List.set_cons_succ, List.set_cons_zero]; go_big_quiet_on
    go_big_quiet_want; apply quiet_value; (· (intro w' hw; go_simp; try rfl)); simp only [Act.put, List.setIfInBounds_toArray, List.set_cons_succ, List.set_cons_zero]; go_big_quiet_on
    refine wpQuiet_nil ?_
    refine wpTail_last ?_
    clear HS
    clear S
    refine wpList_copy_row rfl (.tmp 43) (.tmp 44) 32 32 rfl 5 1 Try.underlying32 isz5 b8 56 8 8 _ 80 HB8.out.drew rfl ⟨b7, 0, none⟩ 8 8 (bc (be8 N)) rfl rfl ?c1b ?c2b (bc_one _) ?_
    case c1b => intro j v hj; rw [Addr.add_lit, Nat.zero_add, HB7.out.drew.cell j]; simpa using hj
    case c2b => simp [bc_len, be8_len, be4_len]
    intro new hnew
    refine wpl_name (fun W => Box W b8 80 (bc (markS N half firm)).toArray ∧ Below w3.heap.size w3 W) (copied HB8.out.drew hnew _ rfl HB7.out.drew HNE.out HQB.out.drew HBB.out).2 ?_
    clear hnew HB7 HB8 HQB
    clear new
    rintro w7 ⟨q8, qb⟩
    have HL7 := Lib.hid (HL3.out.bel qb)
    have HG7 := Lib.hid (HG3.out.below_r qb)
    have HBY := Lib.hid (show Bys w7 (some ⟨b8, 0, none⟩) 64 (markS N half firm) from ⟨markS_len _ _ _, by unfold maxLen; omega, .inr ⟨b8, 0, rfl, q8.lt, fun j v hj => by rw [Nat.zero_add, q8.cell j]; simpa using hj⟩⟩)
    have HSZ := Lib.hid (show base ≤ w7.heap.size from Nat.le_trans hb HG7.out.touch.size)
    clear q8 qb hbl3 HL3 HG3
    go_wp2_with fail
    simp only [Act.put, List.setIfInBounds_toArray, List.set_cons_succ, List.set_cons_zero, goInt]
    obtain ⟨M, hM⟩ : ∃ M, M = N % 2 := ⟨_, rfl⟩
    obtain ⟨K, hK⟩ : ∃ K, K = G.from_ + N % 2 := ⟨_, rfl⟩
    have hz1 := HF.out.size
    have hz2 := HF.out.disk
    have q0 : True := trivial
    have q1 : (N : Int).tmod 2 = (M : Int) := by rw [Int.tmod_eq_emod_of_nonneg (by omega)]; omega
    have q5 : IntKind.i64.wrap (M : Int) = (M : Int) := by rw [IntKind.wrap_i64]; omega
    have q2 : (G.from_ : Int) + (M : Int) = (K : Int) := by omega
    have q3 : IntKind.i64.wrap (K : Int) = (K : Int) := by rw [IntKind.wrap_i64]; omega
    have q4 : (M : Int) ≤ 1 := by omega
    have HDS1 := Lib.hid (show (syncD D).wait.length ≤ 1000000 from Nat.le_trans (sync_wait D) (by omega))
    have HGD1 := Lib.hid (good_sync HGD.out)
    have HWL := Lib.hid (show (syncD D).wait.length ≤ 1000000 from HDS1.out)
    obtain ⟨D1, hD1⟩ : ∃ D1, D1 = syncD D := ⟨_, rfl⟩
    rw [← hD1] at HL7 HGD1 HWL
    have HR0 := Lib.hid (show sealR D G half firm = if wrE D1 (K : Int) 64 ≠ 0 then (wrD D1 (K : Int) (markS N half firm), false)
      else (syncD (wrD D1 (K : Int) (markS N half firm)), decide (syncE (wrD D1 (K : Int) (markS N half firm)) = 0)) by
      unfold sealR; rw [← HN.out, if_neg (by rw [he]; simp), ← hD1, ← hK])
    obtain ⟨D2, hD2⟩ : ∃ D2, D2 = wrD D1 (K : Int) (markS N half firm) := ⟨_, rfl⟩
    rw [← hD2] at HR0
    have HWD := Lib.hid hD2.symm
    have hgd2 : Good D2 := by rw [hD2]; exact good_wrD HGD1.out _ _
    have HGD2 := Lib.hid hgd2
    have HWL2 := Lib.hid (show D2.wait.length ≤ 1000000 from by rw [hD2]; exact Nat.le_trans (wrD_wait _ _ _) (by have := sync_wait D; rw [← hD1] at this; omega))
    have HGm : { G with dead := false } = G := by rw [← HY.out]
    clear hM hK hz1 hz2 hD1 hD2 hgd2 HDS1 he
    by_cases hw : wrE D1 (K : Int) 64 = 0
    · have HWE := Lib.hid hw
      have HDE := Lib.hid (show didE G 0 = 0 by unfold didE; rw [HY.out]; rfl)
      have HDG := Lib.hid (show didG G 0 = G by unfold didG; simp)
      have HR1 := Lib.hid (show sealR D G half firm = (syncD D2, decide (syncE D2 = 0)) by rw [HR0.out, if_neg (by rw [hw]; simp)])
      clear hw HR0
      by_cases hs : syncE D2 = 0
      · have HSE := Lib.hid hs
        have HDE2 := Lib.hid HDE.out
        have HDG2 := Lib.hid HDG.out
        have HR := Lib.hid (show sealR D G half firm = (syncD D2, true) by rw [HR1.out, hs]; rfl)
        clear hs HR1
        refine wp_region_steps (fun w' => w'.cell? ⟨n, 0, none⟩ = some (.pointer (some ⟨nd, 0, none⟩)) ∧ w'.cell? ⟨n, 1, none⟩ = some (.int .i64 (G.from_ : Nat)) ∧ w'.cell? ⟨n, 3, none⟩ = some (.int .u64 (G.mark : Nat))) [(true, 0), (true, 1), (true, 2), (true, 3), (true, 4), (true, 5), (true, 6), (true, 7), (true, 8), (true, 9), (true, 10), (true, 11), (true, 12), (true, 13), (true, 14), (true, 15), (true, 16), (true, 17), (false, 18), (false, 19), (true, 20), (true, 21), (true, 22), (true, 23), (true, 24), (true, 25), (true, 26), (false, 27), (false, 28), (true, 29), (false, 30)] 30 _ _ (by kernel_rfl) rfl (by kernel_rfl) (by kernel_rfl) rfl (fun _ _ _ _ _ h => h) ⟨HL7.out.box.drew.cell 0, HL7.out.box.drew.cell 1, HL7.out.box.drew.cell 3⟩ ?_
        intro S HS
        simp only [pickS, List.getElem?_cons_zero, List.getElem?_cons_succ]
        refine wpSteps_head ?_
        go_big_quiet_want; go_big_quiet_op; go_big_quiet_on
        refine wpQuiet_nil ?_
        refine wpSteps_head ?_
        go_big_quiet_want; go_big_quiet_op; go_big_quiet_on
        refine wpQuiet_nil ?_
        refine wpSteps_head ?_
        go_big_quiet_want; apply quiet_value; (· (intro w' hw; obtain ⟨hA, hB, hC⟩ := (HS.out _).1 hw; have hbl := World.block_lt_of_cell? _ _ hA; go_simp; try rfl)); simp only [Act.put, List.setIfInBounds_toArray, List.set_cons_succ, List.set_cons_zero]; go_big_quiet_on
        refine wpQuiet_nil ?_
        refine wpSteps_head ?_
        go_big_quiet_want; apply quiet_value; (· (intro w' hw; obtain ⟨hA, hB, hC⟩ := (HS.out _).1 hw; have hbl := World.block_lt_of_cell? _ _ hA; go_simp; try rfl)); simp only [Act.put, List.setIfInBounds_toArray, List.set_cons_succ, List.set_cons_zero]; go_big_quiet_on
        refine wpQuiet_nil ?_
        refine wpSteps_head ?_
        go_big_quiet_want; apply quiet_value; (· (intro w' hw; obtain ⟨hA, hB, hC⟩ := (HS.out _).1 hw; have hbl := World.block_lt_of_cell? _ _ hA; go_simp; try rfl)); simp only [Act.put, List.setIfInBounds_toArray, List.set_cons_succ, List.set_cons_zero]; go_big_quiet_on
        refine wpQuiet_nil ?_
        refine wpSteps_head ?_
        go_big_quiet_want; go_big_quiet_op; go_big_quiet_on
        refine wpQuiet_nil ?_
        refine wpSteps_head ?_
        go_big_quiet_want; apply quiet_value; (· (intro w' hw; obtain ⟨hA, hB, hC⟩ := (HS.out _).1 hw; have hbl := World.block_lt_of_cell? _ _ hA; go_simp; try rfl)); simp only [Act.put, List.setIfInBounds_toArray, List.set_cons_succ, List.set_cons_zero]; go_big_quiet_on
        refine wpQuiet_nil ?_
        refine wpSteps_head ?_
        go_big_quiet_want; apply quiet_value; (· (intro w' hw; obtain ⟨hA, hB, hC⟩ := (HS.out _).1 hw; have hbl := World.block_lt_of_cell? _ _ hA; go_simp; try rfl)); simp only [Act.put, List.setIfInBounds_toArray, List.set_cons_succ, List.set_cons_zero]; go_big_quiet_on
        refine wpQuiet_nil ?_
        refine wpSteps_head ?_
        go_big_quiet_want; apply quiet_value; (· (intro w' hw; obtain ⟨hA, hB, hC⟩ := (HS.out _).1 hw; have hbl := World.block_lt_of_cell? _ _ hA; go_simp; try rfl)); simp only [Act.put, List.setIfInBounds_toArray, List.set_cons_succ, List.set_cons_zero]; go_big_quiet_on
        refine wpQuiet_nil ?_
        refine wpSteps_head ?_
        go_big_quiet_want; go_big_quiet_op; go_big_quiet_on
        refine wpQuiet_nil ?_
        refine wpSteps_head ?_
        go_big_quiet_want; apply quiet_value; (· (intro w' hw; obtain ⟨hA, hB, hC⟩ := (HS.out _).1 hw; have hbl := World.block_lt_of_cell? _ _ hA; go_simp; try rfl)); simp only [Act.put, List.setIfInBounds_toArray, List.set_cons_succ, List.set_cons_zero]; go_big_quiet_on
        refine wpQuiet_nil ?_
        refine wpSteps_head ?_
        go_big_quiet_want; apply quiet_value; (· (intro w' hw; obtain ⟨hA, hB, hC⟩ := (HS.out _).1 hw; have hbl := World.block_lt_of_cell? _ _ hA; go_simp; try rfl)); simp only [Act.put, List.setIfInBounds_toArray, List.set_cons_succ, List.set_cons_zero]; go_big_quiet_on
        refine wpQuiet_nil ?_
        refine wpSteps_head ?_
        go_big_quiet_want; apply quiet_value; (· (intro w' hw; obtain ⟨hA, hB, hC⟩ := (HS.out _).1 hw; have hbl := World.block_lt_of_cell? _ _ hA; go_simp; try rfl)); simp only [Act.put, List.setIfInBounds_toArray, List.set_cons_succ, List.set_cons_zero]; go_big_quiet_on
        refine wpQuiet_nil ?_
        refine wpSteps_head ?_
        go_big_quiet_want; apply quiet_value; (· (intro w' hw; obtain ⟨hA, hB, hC⟩ := (HS.out _).1 hw; have hbl := World.block_lt_of_cell? _ _ hA; go_simp; try rfl)); simp only [Act.put, List.setIfInBounds_toArray, List.set_cons_succ, List.set_cons_zero]; go_big_quiet_on
        refine wpQuiet_nil ?_
        refine wpSteps_head ?_
        go_big_quiet_want; apply quiet_value (v := .int .u64 (M : Nat)); (· (intro w' hw; obtain ⟨hA, hB, hC⟩ := (HS.out _).1 hw; have hbl := World.block_lt_of_cell? _ _ hA; go_simp; try rfl)); simp only [Act.put, List.setIfInBounds_toArray, List.set_cons_succ, List.set_cons_zero]; go_big_quiet_on
        refine wpQuiet_nil ?_
        refine wpSteps_head ?_
        go_big_quiet_want; apply quiet_value (v := .int .i64 (M : Nat)); (· (intro w' hw; obtain ⟨hA, hB, hC⟩ := (HS.out _).1 hw; have hbl := World.block_lt_of_cell? _ _ hA; go_simp; try rfl)); simp only [Act.put, List.setIfInBounds_toArray, List.set_cons_succ, List.set_cons_zero]; go_big_quiet_on
        refine wpQuiet_nil ?_
        refine wpSteps_head ?_
        go_big_quiet_want; apply quiet_value (v := .int .i64 ((K : Nat) : Int)); (· (intro w' hw; obtain ⟨hA, hB, hC⟩ := (HS.out _).1 hw; have hbl := World.block_lt_of_cell? _ _ hA; go_simp; try rfl)); simp only [Act.put, List.setIfInBounds_toArray, List.set_cons_succ, List.set_cons_zero]; go_big_quiet_on
        refine wpQuiet_nil ?_
        refine wpSteps_head ?_
        go_big_quiet_want; apply quiet_value; (· (intro w' hw; obtain ⟨hA, hB, hC⟩ := (HS.out _).1 hw; have hbl := World.block_lt_of_cell? _ _ hA; go_simp; try rfl)); simp only [Act.put, List.setIfInBounds_toArray, List.set_cons_succ, List.set_cons_zero]; go_big_quiet_on
        refine wpQuiet_nil ?_
        refine wpSteps_more ?_
        go_wp2_with fail
        refine (write_any ((K : Nat) : Int) (markS N half firm) (some ⟨b8, 0, none⟩) 64 64 HL7.out.dsk.drew HSZ.out HGD1.out HBY.out.drew HWL.out).mono ?_
        rintro e w8 ⟨rfl, VD8, d8, g8⟩
        rw [HWE.out]
        rw [HWD.out] at d8
        have HL8 := Lib.hid (HL7.out.drew'.disk d8 g8)
        have HG8 := Lib.hid ((HG7.out.below_r (Below.refl _ _).drew).trans (GoesL.disk g8))
        clear d8 g8 HL7 HG7
        go_wp2_with fail
        refine ThenS.mk ((HS.out _).2 ⟨HL8.out.box.cell 0, HL8.out.box.cell 1, HL8.out.box.cell 3⟩) ?_
        refine wpSteps_more ?_
        go_wp2_with fail
        refine (did_any 0 HL8.out).mono ?_
        rintro e w9 ⟨rfl, l9, g9, _⟩
        rw [HDE.out]
        rw [HDG.out] at l9
        have HL9 := Lib.hid l9
        have HG9 := Lib.hid (HG8.out.trans g9)
        clear l9 g9 HL8 HG8
        go_wp2_with fail
        refine ThenS.mk ((HS.out _).2 ⟨HL9.out.box.cell 0, HL9.out.box.cell 1, HL9.out.box.cell 3⟩) ?_
        refine wpSteps_head ?_
        go_big_quiet_want; apply quiet_value; (· (intro w' hw; obtain ⟨hA, hB, hC⟩ := (HS.out _).1 hw; have hbl := World.block_lt_of_cell? _ _ hA; go_simp; try rfl)); simp only [Act.put, List.setIfInBounds_toArray, List.set_cons_succ, List.set_cons_zero]; go_big_quiet_on
        refine wpQuiet_nil ?_
        refine wpSteps_head ?_
        go_big_quiet_want; go_big_quiet_op; go_big_quiet_on
        refine wpQuiet_nil ?_
        refine wpSteps_head ?_
        go_big_quiet_want; go_big_quiet_op; go_big_quiet_on
        refine wpQuiet_nil ?_
        refine wpSteps_head ?_
        go_big_quiet_want; go_big_quiet_op; go_big_quiet_on
        refine wpQuiet_nil ?_
        refine wpSteps_head ?_
        go_big_quiet_want; apply quiet_value; (· (intro w' hw; obtain ⟨hA, hB, hC⟩ := (HS.out _).1 hw; have hbl := World.block_lt_of_cell? _ _ hA; go_simp; try rfl)); simp only [Act.put, List.setIfInBounds_toArray, List.set_cons_succ, List.set_cons_zero]; go_big_quiet_on
        refine wpQuiet_nil ?_
        refine wpSteps_head ?_
        go_big_quiet_want; apply quiet_value; (· (intro w' hw; obtain ⟨hA, hB, hC⟩ := (HS.out _).1 hw; have hbl := World.block_lt_of_cell? _ _ hA; go_simp; try rfl)); simp only [Act.put, List.setIfInBounds_toArray, List.set_cons_succ, List.set_cons_zero]; go_big_quiet_on
        refine wpQuiet_nil ?_
        refine wpSteps_head ?_
        go_big_quiet_want; apply quiet_value; (· (intro w' hw; obtain ⟨hA, hB, hC⟩ := (HS.out _).1 hw; have hbl := World.block_lt_of_cell? _ _ hA; go_simp; try rfl)); simp only [Act.put, List.setIfInBounds_toArray, List.set_cons_succ, List.set_cons_zero]; go_big_quiet_on
        refine wpQuiet_nil ?_
        refine wpSteps_more ?_
        go_wp2_with fail
        refine (sync_any HL9.out.dsk (Nat.le_trans hb HG9.out.touch.size) HGD2.out HWL2.out).mono ?_
        rintro e w10 ⟨rfl, VD10, d10, g10⟩
        rw [HSE.out]
        have HL10 := Lib.hid (HL9.out.disk d10 g10)
        have HG10 := Lib.hid (HG9.out.trans (GoesL.disk g10))
        clear d10 g10 HL9 HG9
        go_wp2_with fail
        refine ThenS.mk ((HS.out _).2 ⟨HL10.out.box.cell 0, HL10.out.box.cell 1, HL10.out.box.cell 3⟩) ?_
        refine wpSteps_more ?_
        go_wp2_with fail
        refine (did_any 0 HL10.out).mono ?_
        rintro e w11 ⟨rfl, l11, g11, _⟩
        rw [HDE2.out]
        rw [HDG2.out] at l11
        have HL11 := Lib.hid l11
        have HG11 := Lib.hid (HG10.out.trans g11)
        clear l11 g11 HL10 HG10
        go_wp2_with fail
        refine ThenS.mk ((HS.out _).2 ⟨HL11.out.box.cell 0, HL11.out.box.cell 1, HL11.out.box.cell 3⟩) ?_
        refine wpSteps_head ?_
        go_big_quiet_want; apply quiet_value; (· (intro w' hw; obtain ⟨hA, hB, hC⟩ := (HS.out _).1 hw; have hbl := World.block_lt_of_cell? _ _ hA; go_simp; try rfl)); simp only [Act.put, List.setIfInBounds_toArray, List.set_cons_succ, List.set_cons_zero]; go_big_quiet_on
        refine wpQuiet_nil ?_
        refine wpSteps_last ?_
        clear HS q0 q1 q2 q3 q4 q5
        clear S
        have p3 : w11.cell? ⟨n, 3, none⟩ = some (.int .u64 (G.mark : Nat)) := HL11.out.box.cell 3
        have p4 : w11.cell? ⟨n, 4, none⟩ = some (.int .i64 (G.half : Nat)) := HL11.out.box.cell 4
        have p5 : w11.cell? ⟨n, 5, none⟩ = some (.int .i64 (G.firm : Nat)) := HL11.out.box.cell 5
        have f3 := HL11.out.box.frozen 3
        have f4 := HL11.out.box.frozen 4
        have f5 := HL11.out.box.frozen 5
        have hbl11 := HL11.out.box.lt
        go_wp2_with fail
        go_ret
        refine ⟨VD10, by rw [HR.out]; rfl, ?_, ?_⟩
        · rw [sealG, HR.out, ← HN.out]
          have l1 := HL11.out.put 3 (.int .u64 (N : Int)) { G with mark := N } rfl rfl rfl
          have l2 := l1.put 4 (.int .i64 (half : Nat)) { G with mark := N, half := half } rfl rfl rfl
          exact l2.put 5 (.int .i64 (firm : Nat)) { G with mark := N, half := half, firm := firm } rfl rfl rfl
        · exact ((HG11.out.trans (GoesL.put 3 _)).trans (GoesL.put 4 _)).trans (GoesL.put 5 _)
      · have hs2 : syncE D2 = 40 := by have := sync_val D2; omega
        have HSE := Lib.hid hs2
        have HDE2 := Lib.hid (show didE G 40 = 40 by unfold didE; rw [if_pos (by simp)])
        have HDG2 := Lib.hid (show didG G 40 = { G with dead := true } by unfold didG; simp)
        have HR := Lib.hid (show sealR D G half firm = (syncD D2, false) by rw [HR1.out]; simp [hs])
        clear hs hs2 HR1
        refine wp_region_steps (fun w' => w'.cell? ⟨n, 0, none⟩ = some (.pointer (some ⟨nd, 0, none⟩)) ∧ w'.cell? ⟨n, 1, none⟩ = some (.int .i64 (G.from_ : Nat)) ∧ w'.cell? ⟨n, 3, none⟩ = some (.int .u64 (G.mark : Nat))) [(true, 0), (true, 1), (true, 2), (true, 3), (true, 4), (true, 5), (true, 6), (true, 7), (true, 8), (true, 9), (true, 10), (true, 11), (true, 12), (true, 13), (true, 14), (true, 15), (true, 16), (true, 17), (false, 18), (false, 19), (true, 20), (true, 21), (true, 22), (true, 23), (true, 24), (true, 25), (true, 26), (false, 27), (false, 28), (true, 29), (false, 30)] 30 _ _ (by kernel_rfl) rfl (by kernel_rfl) (by kernel_rfl) rfl (fun _ _ _ _ _ h => h) ⟨HL7.out.box.drew.cell 0, HL7.out.box.drew.cell 1, HL7.out.box.drew.cell 3⟩ ?_
        intro S HS
        simp only [pickS, List.getElem?_cons_zero, List.getElem?_cons_succ]
        refine wpSteps_head ?_
        go_big_quiet_want; go_big_quiet_op; go_big_quiet_on
        refine wpQuiet_nil ?_
        refine wpSteps_head ?_
        go_big_quiet_want; go_big_quiet_op; go_big_quiet_on
        refine wpQuiet_nil ?_
        refine wpSteps_head ?_
        go_big_quiet_want; apply quiet_value; (· (intro w' hw; obtain ⟨hA, hB, hC⟩ := (HS.out _).1 hw; have hbl := World.block_lt_of_cell? _ _ hA; go_simp; try rfl)); simp only [Act.put, List.setIfInBounds_toArray, List.set_cons_succ, List.set_cons_zero]; go_big_quiet_on
        refine wpQuiet_nil ?_
        refine wpSteps_head ?_
        go_big_quiet_want; apply quiet_value; (· (intro w' hw; obtain ⟨hA, hB, hC⟩ := (HS.out _).1 hw; have hbl := World.block_lt_of_cell? _ _ hA; go_simp; try rfl)); simp only [Act.put, List.setIfInBounds_toArray, List.set_cons_succ, List.set_cons_zero]; go_big_quiet_on
        refine wpQuiet_nil ?_
        refine wpSteps_head ?_
        go_big_quiet_want; apply quiet_value; (· (intro w' hw; obtain ⟨hA, hB, hC⟩ := (HS.out _).1 hw; have hbl := World.block_lt_of_cell? _ _ hA; go_simp; try rfl)); simp only [Act.put, List.setIfInBounds_toArray, List.set_cons_succ, List.set_cons_zero]; go_big_quiet_on
        refine wpQuiet_nil ?_
        refine wpSteps_head ?_
        go_big_quiet_want; go_big_quiet_op; go_big_quiet_on
        refine wpQuiet_nil ?_
        refine wpSteps_head ?_
        go_big_quiet_want; apply quiet_value; (· (intro w' hw; obtain ⟨hA, hB, hC⟩ := (HS.out _).1 hw; have hbl := World.block_lt_of_cell? _ _ hA; go_simp; try rfl)); simp only [Act.put, List.setIfInBounds_toArray, List.set_cons_succ, List.set_cons_zero]; go_big_quiet_on
        refine wpQuiet_nil ?_
        refine wpSteps_head ?_
        go_big_quiet_want; apply quiet_value; (· (intro w' hw; obtain ⟨hA, hB, hC⟩ := (HS.out _).1 hw; have hbl := World.block_lt_of_cell? _ _ hA; go_simp; try rfl)); simp only [Act.put, List.setIfInBounds_toArray, List.set_cons_succ, List.set_cons_zero]; go_big_quiet_on
        refine wpQuiet_nil ?_
        refine wpSteps_head ?_
        go_big_quiet_want; apply quiet_value; (· (intro w' hw; obtain ⟨hA, hB, hC⟩ := (HS.out _).1 hw; have hbl := World.block_lt_of_cell? _ _ hA; go_simp; try rfl)); simp only [Act.put, List.setIfInBounds_toArray, List.set_cons_succ, List.set_cons_zero]; go_big_quiet_on
        refine wpQuiet_nil ?_
        refine wpSteps_head ?_
        go_big_quiet_want; go_big_quiet_op; go_big_quiet_on
        refine wpQuiet_nil ?_
        refine wpSteps_head ?_
        go_big_quiet_want; apply quiet_value; (· (intro w' hw; obtain ⟨hA, hB, hC⟩ := (HS.out _).1 hw; have hbl := World.block_lt_of_cell? _ _ hA; go_simp; try rfl)); simp only [Act.put, List.setIfInBounds_toArray, List.set_cons_succ, List.set_cons_zero]; go_big_quiet_on
        refine wpQuiet_nil ?_
        refine wpSteps_head ?_
        go_big_quiet_want; apply quiet_value; (· (intro w' hw; obtain ⟨hA, hB, hC⟩ := (HS.out _).1 hw; have hbl := World.block_lt_of_cell? _ _ hA; go_simp; try rfl)); simp only [Act.put, List.setIfInBounds_toArray, List.set_cons_succ, List.set_cons_zero]; go_big_quiet_on
        refine wpQuiet_nil ?_
        refine wpSteps_head ?_
        go_big_quiet_want; apply quiet_value; (· (intro w' hw; obtain ⟨hA, hB, hC⟩ := (HS.out _).1 hw; have hbl := World.block_lt_of_cell? _ _ hA; go_simp; try rfl)); simp only [Act.put, List.setIfInBounds_toArray, List.set_cons_succ, List.set_cons_zero]; go_big_quiet_on
        refine wpQuiet_nil ?_
        refine wpSteps_head ?_
        go_big_quiet_want; apply quiet_value; (· (intro w' hw; obtain ⟨hA, hB, hC⟩ := (HS.out _).1 hw; have hbl := World.block_lt_of_cell? _ _ hA; go_simp; try rfl)); simp only [Act.put, List.setIfInBounds_toArray, List.set_cons_succ, List.set_cons_zero]; go_big_quiet_on
        refine wpQuiet_nil ?_
        refine wpSteps_head ?_
        go_big_quiet_want; apply quiet_value (v := .int .u64 (M : Nat)); (· (intro w' hw; obtain ⟨hA, hB, hC⟩ := (HS.out _).1 hw; have hbl := World.block_lt_of_cell? _ _ hA; go_simp; try rfl)); simp only [Act.put, List.setIfInBounds_toArray, List.set_cons_succ, List.set_cons_zero]; go_big_quiet_on
        refine wpQuiet_nil ?_
        refine wpSteps_head ?_
        go_big_quiet_want; apply quiet_value (v := .int .i64 (M : Nat)); (· (intro w' hw; obtain ⟨hA, hB, hC⟩ := (HS.out _).1 hw; have hbl := World.block_lt_of_cell? _ _ hA; go_simp; try rfl)); simp only [Act.put, List.setIfInBounds_toArray, List.set_cons_succ, List.set_cons_zero]; go_big_quiet_on
        refine wpQuiet_nil ?_
        refine wpSteps_head ?_
        go_big_quiet_want; apply quiet_value (v := .int .i64 ((K : Nat) : Int)); (· (intro w' hw; obtain ⟨hA, hB, hC⟩ := (HS.out _).1 hw; have hbl := World.block_lt_of_cell? _ _ hA; go_simp; try rfl)); simp only [Act.put, List.setIfInBounds_toArray, List.set_cons_succ, List.set_cons_zero]; go_big_quiet_on
        refine wpQuiet_nil ?_
        refine wpSteps_head ?_
        go_big_quiet_want; apply quiet_value; (· (intro w' hw; obtain ⟨hA, hB, hC⟩ := (HS.out _).1 hw; have hbl := World.block_lt_of_cell? _ _ hA; go_simp; try rfl)); simp only [Act.put, List.setIfInBounds_toArray, List.set_cons_succ, List.set_cons_zero]; go_big_quiet_on
        refine wpQuiet_nil ?_
        refine wpSteps_more ?_
        go_wp2_with fail
        refine (write_any ((K : Nat) : Int) (markS N half firm) (some ⟨b8, 0, none⟩) 64 64 HL7.out.dsk.drew HSZ.out HGD1.out HBY.out.drew HWL.out).mono ?_
        rintro e w8 ⟨rfl, VD8, d8, g8⟩
        rw [HWE.out]
        rw [HWD.out] at d8
        have HL8 := Lib.hid (HL7.out.drew'.disk d8 g8)
        have HG8 := Lib.hid ((HG7.out.below_r (Below.refl _ _).drew).trans (GoesL.disk g8))
        clear d8 g8 HL7 HG7
        go_wp2_with fail
        refine ThenS.mk ((HS.out _).2 ⟨HL8.out.box.cell 0, HL8.out.box.cell 1, HL8.out.box.cell 3⟩) ?_
        refine wpSteps_more ?_
        go_wp2_with fail
        refine (did_any 0 HL8.out).mono ?_
        rintro e w9 ⟨rfl, l9, g9, _⟩
        rw [HDE.out]
        rw [HDG.out] at l9
        have HL9 := Lib.hid l9
        have HG9 := Lib.hid (HG8.out.trans g9)
        clear l9 g9 HL8 HG8
        go_wp2_with fail
        refine ThenS.mk ((HS.out _).2 ⟨HL9.out.box.cell 0, HL9.out.box.cell 1, HL9.out.box.cell 3⟩) ?_
        refine wpSteps_head ?_
        go_big_quiet_want; apply quiet_value; (· (intro w' hw; obtain ⟨hA, hB, hC⟩ := (HS.out _).1 hw; have hbl := World.block_lt_of_cell? _ _ hA; go_simp; try rfl)); simp only [Act.put, List.setIfInBounds_toArray, List.set_cons_succ, List.set_cons_zero]; go_big_quiet_on
        refine wpQuiet_nil ?_
        refine wpSteps_head ?_
        go_big_quiet_want; go_big_quiet_op; go_big_quiet_on
        refine wpQuiet_nil ?_
        refine wpSteps_head ?_
        go_big_quiet_want; go_big_quiet_op; go_big_quiet_on
        refine wpQuiet_nil ?_
        refine wpSteps_head ?_
        go_big_quiet_want; go_big_quiet_op; go_big_quiet_on
        refine wpQuiet_nil ?_
        refine wpSteps_head ?_
        go_big_quiet_want; apply quiet_value; (· (intro w' hw; obtain ⟨hA, hB, hC⟩ := (HS.out _).1 hw; have hbl := World.block_lt_of_cell? _ _ hA; go_simp; try rfl)); simp only [Act.put, List.setIfInBounds_toArray, List.set_cons_succ, List.set_cons_zero]; go_big_quiet_on
        refine wpQuiet_nil ?_
        refine wpSteps_head ?_
        go_big_quiet_want; apply quiet_value; (· (intro w' hw; obtain ⟨hA, hB, hC⟩ := (HS.out _).1 hw; have hbl := World.block_lt_of_cell? _ _ hA; go_simp; try rfl)); simp only [Act.put, List.setIfInBounds_toArray, List.set_cons_succ, List.set_cons_zero]; go_big_quiet_on
        refine wpQuiet_nil ?_
        refine wpSteps_head ?_
        go_big_quiet_want; apply quiet_value; (· (intro w' hw; obtain ⟨hA, hB, hC⟩ := (HS.out _).1 hw; have hbl := World.block_lt_of_cell? _ _ hA; go_simp; try rfl)); simp only [Act.put, List.setIfInBounds_toArray, List.set_cons_succ, List.set_cons_zero]; go_big_quiet_on
        refine wpQuiet_nil ?_
        refine wpSteps_more ?_
        go_wp2_with fail
        refine (sync_any HL9.out.dsk (Nat.le_trans hb HG9.out.touch.size) HGD2.out HWL2.out).mono ?_
        rintro e w10 ⟨rfl, VD10, d10, g10⟩
        rw [HSE.out]
        have HL10 := Lib.hid (HL9.out.disk d10 g10)
        have HG10 := Lib.hid (HG9.out.trans (GoesL.disk g10))
        clear d10 g10 HL9 HG9
        go_wp2_with fail
        refine ThenS.mk ((HS.out _).2 ⟨HL10.out.box.cell 0, HL10.out.box.cell 1, HL10.out.box.cell 3⟩) ?_
        refine wpSteps_more ?_
        go_wp2_with fail
        refine (did_any 40 HL10.out).mono ?_
        rintro e w11 ⟨rfl, l11, g11, _⟩
        rw [HDE2.out]
        rw [HDG2.out] at l11
        have HL11 := Lib.hid l11
        have HG11 := Lib.hid (HG10.out.trans g11)
        clear l11 g11 HL10 HG10
        go_wp2_with fail
        refine ThenS.mk ((HS.out _).2 ⟨HL11.out.box.cell 0, HL11.out.box.cell 1, HL11.out.box.cell 3⟩) ?_
        refine wpSteps_head ?_
        go_big_quiet_want; apply quiet_value; (· (intro w' hw; obtain ⟨hA, hB, hC⟩ := (HS.out _).1 hw; have hbl := World.block_lt_of_cell? _ _ hA; go_simp; try rfl)); simp only [Act.put, List.setIfInBounds_toArray, List.set_cons_succ, List.set_cons_zero]; go_big_quiet_on
        refine wpQuiet_nil ?_
        refine wpSteps_last ?_
        clear HS q0 q1 q2 q3 q4 q5
        clear S
        go_wp2_with fail
        go_ret
        refine ⟨VD10, by rw [HR.out]; rfl, ?_, HG11.out⟩
        rw [sealG, HR.out]
        exact HL11.out
    · have hw2 : wrE D1 (K : Int) 64 = 40 ∨ wrE D1 (K : Int) 64 = 41 := (wr_val D1 (K : Int) 64).resolve_left hw
      have HR := Lib.hid (show sealR D G half firm = (D2, false) by rw [HR0.out, if_pos hw])
      obtain ⟨E1, hE1⟩ : ∃ E1, E1 = wrE D1 (K : Int) 64 := ⟨_, rfl⟩
      have HWE := Lib.hid hE1.symm
      rw [← hE1] at hw hw2
      have HDE := Lib.hid (show didE G E1 = 40 by unfold didE; rw [if_pos (by simp [hw])])
      have HDG := Lib.hid (show didG G E1 = { G with dead := true } by unfold didG; simp [hw])
      clear hw hw2 hE1 HR0
      refine wp_region_steps (fun w' => w'.cell? ⟨n, 0, none⟩ = some (.pointer (some ⟨nd, 0, none⟩)) ∧ w'.cell? ⟨n, 1, none⟩ = some (.int .i64 (G.from_ : Nat)) ∧ w'.cell? ⟨n, 3, none⟩ = some (.int .u64 (G.mark : Nat))) [(true, 0), (true, 1), (true, 2), (true, 3), (true, 4), (true, 5), (true, 6), (true, 7), (true, 8), (true, 9), (true, 10), (true, 11), (true, 12), (true, 13), (true, 14), (true, 15), (true, 16), (true, 17), (false, 18), (false, 19), (true, 20), (true, 21), (true, 22), (true, 23), (true, 24), (true, 25), (true, 26), (false, 27), (false, 28), (true, 29), (false, 30)] 30 _ _ (by kernel_rfl) rfl (by kernel_rfl) (by kernel_rfl) rfl (fun _ _ _ _ _ h => h) ⟨HL7.out.box.drew.cell 0, HL7.out.box.drew.cell 1, HL7.out.box.drew.cell 3⟩ ?_
      intro S HS
      simp only [pickS, List.getElem?_cons_zero, List.getElem?_cons_succ]
      refine wpSteps_head ?_
      go_big_quiet_want; go_big_quiet_op; go_big_quiet_on
      refine wpQuiet_nil ?_
      refine wpSteps_head ?_
      go_big_quiet_want; go_big_quiet_op; go_big_quiet_on
      refine wpQuiet_nil ?_
      refine wpSteps_head ?_
      go_big_quiet_want; apply quiet_value; (· (intro w' hw; obtain ⟨hA, hB, hC⟩ := (HS.out _).1 hw; have hbl := World.block_lt_of_cell? _ _ hA; go_simp; try rfl)); simp only [Act.put, List.setIfInBounds_toArray, List.set_cons_succ, List.set_cons_zero]; go_big_quiet_on
      refine wpQuiet_nil ?_
      refine wpSteps_head ?_
      go_big_quiet_want; apply quiet_value; (· (intro w' hw; obtain ⟨hA, hB, hC⟩ := (HS.out _).1 hw; have hbl := World.block_lt_of_cell? _ _ hA; go_simp; try rfl)); simp only [Act.put, List.setIfInBounds_toArray, List.set_cons_succ, List.set_cons_zero]; go_big_quiet_on
      refine wpQuiet_nil ?_
      refine wpSteps_head ?_
      go_big_quiet_want; apply quiet_value; (· (intro w' hw; obtain ⟨hA, hB, hC⟩ := (HS.out _).1 hw; have hbl := World.block_lt_of_cell? _ _ hA; go_simp; try rfl)); simp only [Act.put, List.setIfInBounds_toArray, List.set_cons_succ, List.set_cons_zero]; go_big_quiet_on
      refine wpQuiet_nil ?_
      refine wpSteps_head ?_
      go_big_quiet_want; go_big_quiet_op; go_big_quiet_on
      refine wpQuiet_nil ?_
      refine wpSteps_head ?_
      go_big_quiet_want; apply quiet_value; (· (intro w' hw; obtain ⟨hA, hB, hC⟩ := (HS.out _).1 hw; have hbl := World.block_lt_of_cell? _ _ hA; go_simp; try rfl)); simp only [Act.put, List.setIfInBounds_toArray, List.set_cons_succ, List.set_cons_zero]; go_big_quiet_on
      refine wpQuiet_nil ?_
      refine wpSteps_head ?_
      go_big_quiet_want; apply quiet_value; (· (intro w' hw; obtain ⟨hA, hB, hC⟩ := (HS.out _).1 hw; have hbl := World.block_lt_of_cell? _ _ hA; go_simp; try rfl)); simp only [Act.put, List.setIfInBounds_toArray, List.set_cons_succ, List.set_cons_zero]; go_big_quiet_on
      refine wpQuiet_nil ?_
      refine wpSteps_head ?_
      go_big_quiet_want; apply quiet_value; (· (intro w' hw; obtain ⟨hA, hB, hC⟩ := (HS.out _).1 hw; have hbl := World.block_lt_of_cell? _ _ hA; go_simp; try rfl)); simp only [Act.put, List.setIfInBounds_toArray, List.set_cons_succ, List.set_cons_zero]; go_big_quiet_on
      refine wpQuiet_nil ?_
      refine wpSteps_head ?_
      go_big_quiet_want; go_big_quiet_op; go_big_quiet_on
      refine wpQuiet_nil ?_
      refine wpSteps_head ?_
      go_big_quiet_want; apply quiet_value; (· (intro w' hw; obtain ⟨hA, hB, hC⟩ := (HS.out _).1 hw; have hbl := World.block_lt_of_cell? _ _ hA; go_simp; try rfl)); simp only [Act.put, List.setIfInBounds_toArray, List.set_cons_succ, List.set_cons_zero]; go_big_quiet_on
      refine wpQuiet_nil ?_
      refine wpSteps_head ?_
      go_big_quiet_want; apply quiet_value; (· (intro w' hw; obtain ⟨hA, hB, hC⟩ := (HS.out _).1 hw; have hbl := World.block_lt_of_cell? _ _ hA; go_simp; try rfl)); simp only [Act.put, List.setIfInBounds_toArray, List.set_cons_succ, List.set_cons_zero]; go_big_quiet_on
      refine wpQuiet_nil ?_
      refine wpSteps_head ?_
      go_big_quiet_want; apply quiet_value; (· (intro w' hw; obtain ⟨hA, hB, hC⟩ := (HS.out _).1 hw; have hbl := World.block_lt_of_cell? _ _ hA; go_simp; try rfl)); simp only [Act.put, List.setIfInBounds_toArray, List.set_cons_succ, List.set_cons_zero]; go_big_quiet_on
      refine wpQuiet_nil ?_
      refine wpSteps_head ?_
      go_big_quiet_want; apply quiet_value; (· (intro w' hw; obtain ⟨hA, hB, hC⟩ := (HS.out _).1 hw; have hbl := World.block_lt_of_cell? _ _ hA; go_simp; try rfl)); simp only [Act.put, List.setIfInBounds_toArray, List.set_cons_succ, List.set_cons_zero]; go_big_quiet_on
      refine wpQuiet_nil ?_
      refine wpSteps_head ?_
      go_big_quiet_want; apply quiet_value (v := .int .u64 (M : Nat)); (· (intro w' hw; obtain ⟨hA, hB, hC⟩ := (HS.out _).1 hw; have hbl := World.block_lt_of_cell? _ _ hA; go_simp; try rfl)); simp only [Act.put, List.setIfInBounds_toArray, List.set_cons_succ, List.set_cons_zero]; go_big_quiet_on
      refine wpQuiet_nil ?_
      refine wpSteps_head ?_
      go_big_quiet_want; apply quiet_value (v := .int .i64 (M : Nat)); (· (intro w' hw; obtain ⟨hA, hB, hC⟩ := (HS.out _).1 hw; have hbl := World.block_lt_of_cell? _ _ hA; go_simp; try rfl)); simp only [Act.put, List.setIfInBounds_toArray, List.set_cons_succ, List.set_cons_zero]; go_big_quiet_on
      refine wpQuiet_nil ?_
      refine wpSteps_head ?_
      go_big_quiet_want; apply quiet_value (v := .int .i64 ((K : Nat) : Int)); (· (intro w' hw; obtain ⟨hA, hB, hC⟩ := (HS.out _).1 hw; have hbl := World.block_lt_of_cell? _ _ hA; go_simp; try rfl)); simp only [Act.put, List.setIfInBounds_toArray, List.set_cons_succ, List.set_cons_zero]; go_big_quiet_on
      refine wpQuiet_nil ?_
      refine wpSteps_head ?_
      go_big_quiet_want; apply quiet_value; (· (intro w' hw; obtain ⟨hA, hB, hC⟩ := (HS.out _).1 hw; have hbl := World.block_lt_of_cell? _ _ hA; go_simp; try rfl)); simp only [Act.put, List.setIfInBounds_toArray, List.set_cons_succ, List.set_cons_zero]; go_big_quiet_on
      refine wpQuiet_nil ?_
      refine wpSteps_more ?_
      go_wp2_with fail
      refine (write_any ((K : Nat) : Int) (markS N half firm) (some ⟨b8, 0, none⟩) 64 64 HL7.out.dsk.drew HSZ.out HGD1.out HBY.out.drew HWL.out).mono ?_
      rintro e w8 ⟨rfl, VD8, d8, g8⟩
      rw [HWE.out]
      rw [HWD.out] at d8
      have HL8 := Lib.hid (HL7.out.drew'.disk d8 g8)
      have HG8 := Lib.hid ((HG7.out.below_r (Below.refl _ _).drew).trans (GoesL.disk g8))
      clear d8 g8 HL7 HG7
      go_wp2_with fail
      refine ThenS.mk ((HS.out _).2 ⟨HL8.out.box.cell 0, HL8.out.box.cell 1, HL8.out.box.cell 3⟩) ?_
      refine wpSteps_more ?_
      go_wp2_with fail
      refine (did_any E1 HL8.out).mono ?_
      rintro e w9 ⟨rfl, l9, g9, _⟩
      rw [HDE.out]
      rw [HDG.out] at l9
      have HL9 := Lib.hid l9
      have HG9 := Lib.hid (HG8.out.trans g9)
      clear l9 g9 HL8 HG8
      go_wp2_with fail
      refine ThenS.mk ((HS.out _).2 ⟨HL9.out.box.cell 0, HL9.out.box.cell 1, HL9.out.box.cell 3⟩) ?_
      refine wpSteps_head ?_
      go_big_quiet_want; apply quiet_value; (· (intro w' hw; obtain ⟨hA, hB, hC⟩ := (HS.out _).1 hw; have hbl := World.block_lt_of_cell? _ _ hA; go_simp; try rfl)); simp only [Act.put, List.setIfInBounds_toArray, List.set_cons_succ, List.set_cons_zero]; go_big_quiet_on
      refine wpQuiet_nil ?_
      refine wpSteps_head ?_
      go_big_quiet_want; go_big_quiet_op; go_big_quiet_on
      refine wpQuiet_nil ?_
      refine wpSteps_head ?_
      go_big_quiet_skip
      refine wpQuiet_nil ?_
      refine wpSteps_head ?_
      go_big_quiet_skip
      refine wpQuiet_nil ?_
      refine wpSteps_head ?_
      go_big_quiet_skip
      refine wpQuiet_nil ?_
      refine wpSteps_head ?_
      go_big_quiet_skip
      refine wpQuiet_nil ?_
      refine wpSteps_head ?_
      go_big_quiet_skip
      refine wpQuiet_nil ?_
      refine wpSteps_more ?_
      go_wp2_with fail
      refine ThenS.mk ((HS.out _).2 ⟨HL9.out.box.cell 0, HL9.out.box.cell 1, HL9.out.box.cell 3⟩) ?_
      refine wpSteps_more ?_
      go_wp2_with fail
      refine ThenS.mk ((HS.out _).2 ⟨HL9.out.box.cell 0, HL9.out.box.cell 1, HL9.out.box.cell 3⟩) ?_
      refine wpSteps_head ?_
      go_big_quiet_skip
      refine wpQuiet_nil ?_
      refine wpSteps_last ?_
      clear HS q0 q1 q2 q3 q4 q5
      clear S
      go_wp2_with fail
      go_ret
      refine ⟨VD8, by rw [HR.out]; rfl, ?_, HG9.out⟩
      rw [sealG, HR.out]
      exact HL9.out
  · have e1 : didE G (syncE D) = 40 := by unfold didE; rw [if_pos (by simp [he])]
    have e2 : didG G (syncE D) = { G with dead := true } := by unfold didG; simp [he]
    rw [e1]
    rw [e2] at L2
    have HL2 := Lib.hid L2
    have HR := Lib.hid (show sealR D G half firm = (syncD D, false) by unfold sealR; rw [if_pos he])
    clear L2 g2 t2 he e1 e2 hL1
    go_wp2_with fail
    go_ret
    refine ⟨VD1, by rw [HR.out]; rfl, ?_, HG2.out⟩
    rw [sealG, HR.out]
    exact HL2.out
end Go.Proofs.Ytdiboicllolcnaa
