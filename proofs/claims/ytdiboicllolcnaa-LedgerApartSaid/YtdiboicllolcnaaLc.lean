/- ledger: did, All, copies of rows, a record as bytes. Conditions: the ledger lies in the call's own memory. -/
import Derived.Test.YtdiboicllolcnaaLb
import Derived.Lib.AppendStr
namespace Go.Proofs.Ytdiboicllolcnaa
open Go Go.RowKit
set_option linter.unusedVariables false
set_option linter.unusedSimpArgs false
variable {w w' : World} {base n nd : Nat} {V V' : Vl} {VD VD' : Vs} {D D' : Dk} {G G' : Lg}

def didG (G : Lg) (e : Int) : Lg := { G with dead := G.dead || decide (e ≠ 0) }
def didE (G : Lg) (e : Int) : Int := if G.dead || decide (e ≠ 0) then 40 else 0
theorem did_any (e : Int) (h : Ldg w base n nd V VD D G) : Calls Try.prog 46 #[.pointer (some ⟨n, 0, none⟩), .int .i64 e] w fun r w' => r = .returned (.int .i64 (didE G e)) ∧ Ldg w' base n nd V VD D (didG G e) ∧ GoesL w w' n nd V V VD VD ∧ Touch (· = n) w w' := by
  have p8 : w.cell? ⟨n, 8, none⟩ = some (.bool G.dead) := h.box.cell 8
  have f8 := h.box.frozen 8
  have hn := h.box.lt
  have HL := Lib.hid (h.put 8 (.bool (G.dead || decide (e ≠ 0))) (didG G e) rfl rfl rfl)
  have HE := Lib.hid (show didE G e = if G.dead || decide (e ≠ 0) then 40 else 0 from rfl)
  clear h
  cases hd : G.dead
  · rw [hd] at p8 HL HE
    by_cases h0 : e = 0
    · have hb : (e != 0) = false := by simp [h0]
      have hq : (false || decide (e ≠ 0)) = false := by simp [h0]
      rw [hq] at HL HE
      clear h0 hq
      go_enter Try.func46, Try.ntmps46
      go_wp2_with fail
      go_ret
      exact ⟨by rw [HE.out]; rfl, HL.out, GoesL.put 8 _, Touch.set1 (Touch.refl (· = n) w) 8 _⟩
    · have hb : (e != 0) = true := by simp [h0]
      have hq : (false || decide (e ≠ 0)) = true := by simp [h0]
      rw [hq] at HL HE
      clear h0 hq
      go_enter Try.func46, Try.ntmps46
      go_wp2_with fail
      go_ret
      exact ⟨by rw [HE.out]; rfl, HL.out, GoesL.put 8 _, Touch.set1 (Touch.refl (· = n) w) 8 _⟩
  · rw [hd] at p8 HL HE
    rw [Bool.true_or] at HL HE
    go_enter Try.func46, Try.ntmps46
    go_wp2_with fail
    go_ret
    exact ⟨by rw [HE.out]; rfl, HL.out, GoesL.put 8 _, Touch.set1 (Touch.refl (· = n) w) 8 _⟩
theorem nil_eq32 (w : World) : (binOp .eql 32 (.slice none 0 0) (.slice none 0 0)).run Try.prog w = .ok (.bool true) w := by kernel_rfl
theorem some_ne32 (a : Addr) (n c : Nat) (w : World) : (binOp .eql 32 (.slice (some a) n c) (.slice none 0 0)).run Try.prog w = .ok (.bool false) w := by kernel_rfl
theorem row5 : (Try.prog.info? 5).map (fun i => (i.zero, i.size, i.bytes)) = some (some (.int .u8 0), 1, 1) := by kernel_rfl
set_option maxHeartbeats 1000000 in
theorem clone_bytes {L : List Value} {m : Nat} (ad : Option Addr) (c : Nat) (h1 : ∀ u ∈ L, u.oneCell' = true) (h : w.ownsRow base 5 1 (.slice ad m c) m L) (hl : m ≤ 100000000) :
    Calls Try.prog 34 #[.slice ad m c] w fun e w' => ∃ v', e = .returned v' ∧ w'.ownsRow w.heap.size 5 1 v' m L ∧ Below w.heap.size w w' := by
  cases ad with
  | none =>
    have h0 : m = 0 ∧ c = 0 := by
      rcases h.2 with ⟨h0, h1⟩ | ⟨g, cap, cur, h0, _⟩
      · exact ⟨h1, by injection h0⟩
      · cases h0
    obtain ⟨rfl, rfl⟩ := h0
    obtain rfl : L = [] := List.length_eq_zero_iff.1 (by simpa using h.1)
    have s1 := nil_eq32
    clear h
    go_enter Try.func34, Try.ntmps34
    go_wp2
    go_ret
    exact ⟨_, rfl, World.ownsRow_nil _ _ _ _, Below.refl _ _⟩
  | some ad =>
    have HO1 := Lib.hid (World.ownsRow_lit (base := w.heap.size) (e := 5) (size := 1) w #[] 0 (Nat.le_refl _) (by decide) rfl)
    have HS1 := Lib.hid (own_src (own_stays h (w' := w.alloc (.cells #[] 5)) (fun k hk => Below.heap_alloc w _ k (own_lt h k hk))) h1)
    obtain ⟨i0, hi, hz0, hz1, hz2⟩ := info_parts row5
    have HI := Lib.hid hi
    have HZZ := Lib.hid hz0
    have HSZ := Lib.hid (show w.heap.size ≤ (w.alloc (.cells #[] 5)).heap.size by simp)
    have BB := Lib.hid ((Below.refl w.heap.size w).alloc (Nat.le_refl _) (.cells #[] 5))
    have s1 := some_ne32
    clear h hi hz0 h1
    go_enter Try.func34, Try.ntmps34
    go_wp2_with (at_builtin; refine wpList_append_at rfl (.tmp 5) (.tmp 6) 32 rfl w.heap.size 5 i0 _ 1 1 Try.underlying32 HI.out HZZ.out hz1 hz2 rfl (by decide) _ _ _ rfl HO1.out _ _ _ _ rfl HS1.out (by unfold maxLen; omega) (by omega) HSZ.out ?_; intro v2 w2 own2 g2 at2)
    go_ret
    exact ⟨_, rfl, by simpa using own2, BB.out.grown g2 HSZ.out (own_ge HO1.out)⟩
theorem nil_eq42 (w : World) : (binOp .eql 42 (.slice none 0 0) (.slice none 0 0)).run Try.prog w = .ok (.bool true) w := by kernel_rfl
theorem some_ne42 (a : Addr) (n c : Nat) (w : World) : (binOp .eql 42 (.slice (some a) n c) (.slice none 0 0)).run Try.prog w = .ok (.bool false) w := by kernel_rfl
theorem row9 : (Try.prog.info? 9).map (fun i => (i.zero, i.size, i.bytes)) = some (some (.string ⟨#[]⟩), 1, 16) := by kernel_rfl
set_option maxHeartbeats 1000000 in
theorem clone_texts {L : List Value} {m : Nat} (ad : Option Addr) (c : Nat) (h1 : ∀ u ∈ L, u.oneCell' = true) (h : w.ownsRow base 9 1 (.slice ad m c) m L) (hl : m ≤ 100000000) :
    Calls Try.prog 43 #[.slice ad m c] w fun e w' => ∃ v', e = .returned v' ∧ w'.ownsRow w.heap.size 9 1 v' m L ∧ Below w.heap.size w w' := by
  cases ad with
  | none =>
    have h0 : m = 0 ∧ c = 0 := by
      rcases h.2 with ⟨h0, h1⟩ | ⟨g, cap, cur, h0, _⟩
      · exact ⟨h1, by injection h0⟩
      · cases h0
    obtain ⟨rfl, rfl⟩ := h0
    obtain rfl : L = [] := List.length_eq_zero_iff.1 (by simpa using h.1)
    have s1 := nil_eq42
    clear h
    go_enter Try.func43, Try.ntmps43
    go_wp2
    go_ret
    exact ⟨_, rfl, World.ownsRow_nil _ _ _ _, Below.refl _ _⟩
  | some ad =>
    have HO1 := Lib.hid (World.ownsRow_lit (base := w.heap.size) (e := 9) (size := 1) w #[] 0 (Nat.le_refl _) (by decide) rfl)
    have HS1 := Lib.hid (own_src (own_stays h (w' := w.alloc (.cells #[] 9)) (fun k hk => Below.heap_alloc w _ k (own_lt h k hk))) h1)
    obtain ⟨i0, hi, hz0, hz1, hz2⟩ := info_parts row9
    have HI := Lib.hid hi
    have HZZ := Lib.hid hz0
    have HSZ := Lib.hid (show w.heap.size ≤ (w.alloc (.cells #[] 9)).heap.size by simp)
    have BB := Lib.hid ((Below.refl w.heap.size w).alloc (Nat.le_refl _) (.cells #[] 9))
    have s1 := some_ne42
    clear h hi hz0 h1
    go_enter Try.func43, Try.ntmps43
    go_wp2_with (at_builtin; refine wpList_append_at rfl (.tmp 5) (.tmp 6) 42 rfl w.heap.size 9 i0 _ 1 16 Try.underlying42 HI.out HZZ.out hz1 hz2 rfl (by decide) _ _ _ rfl HO1.out _ _ _ _ rfl HS1.out (by unfold maxLen; omega) (by omega) HSZ.out ?_; intro v2 w2 own2 g2 at2)
    go_ret
    exact ⟨_, rfl, by simpa using own2, BB.out.grown g2 HSZ.out (own_ge HO1.out)⟩
theorem text_one (l : List ByteArray) : ∀ u ∈ l.map Value.string, u.oneCell' = true := by
  intro u hu
  obtain ⟨s, _, rfl⟩ := List.mem_map.1 hu
  rfl
theorem lall_any (h : Ldg w base n nd V VD D G) (hl : G.all.length ≤ 100000000) : Calls Try.prog 20 #[.pointer (some ⟨n, 0, none⟩)] w fun e w' => ∃ v', e = .returned v' ∧ w'.ownsRow w.heap.size 9 1 v' G.all.length (G.all.map Value.string) ∧ Below w.heap.size w w' := by
  have p7 : w.cell? ⟨n, 7, none⟩ = some V.a := h.box.cell 7
  obtain ⟨ad, c, hv, _⟩ := own_shape h.ra
  rw [hv] at p7
  have hr := h.ra
  rw [hv] at hr
  have C := Lib.hid (clone_texts ad c (text_one _) hr hl)
  have hn := h.box.lt
  clear h hv hr
  go_enter Try.func20, Try.ntmps20
  go_wp2_with fail
  refine C.out.mono ?_
  rintro e w1 ⟨v', rfl, h1, h2⟩
  have H1 := Lib.hid h1
  have H2 := Lib.hid h2
  clear h1 h2 C
  obtain ⟨ad', c', rfl, _⟩ := own_shape H1.out
  go_wp2_with fail
  go_ret
  exact ⟨_, rfl, H1.out, H2.out⟩
/-- a record as bytes. -/
def frame (s : ByteArray) : Sec := be4 s.size ++ s.data.toList
theorem frame_len (s : ByteArray) : (frame s).length = 4 + s.size := by
  unfold frame
  rw [List.length_append, be4_len, Array.length_toList]; rfl
theorem bc_be4 (N : Nat) : bc (be4 N) = [.int .u8 (N / 16777216 % 256), .int .u8 (N / 65536 % 256), .int .u8 (N / 256 % 256), .int .u8 (N % 256)] := by
  simp only [bc, be4, List.map_cons, List.map_nil, byteN_nat]
  simp only [Nat.reducePow]
  simp only [Int.natCast_emod, Int.natCast_ediv, Nat.div_one]
  rfl
theorem bc_str (s : ByteArray) : Lib.strCells s = bc s.data.toList := rfl
theorem bc_be4s (N : Nat) (h : N ≤ 4096) : bc (be4 N) = [.int .u8 ((N : Int) / 16777216), .int .u8 ((N : Int) / 65536), .int .u8 ((N : Int) / 256), .int .u8 ((N : Int) % 256)] := by
  rw [bc_be4]
  have h1 : (N : Int) / 16777216 % 256 = (N : Int) / 16777216 := by omega
  have h2 : (N : Int) / 65536 % 256 = (N : Int) / 65536 := by omega
  have h3 : (N : Int) / 256 % 256 = (N : Int) / 256 := by omega
  rw [h1, h2, h3]
theorem own_at_lies {b b' e s m m' B : Nat} {v v' : Value} {xs : List Value} {k : Nat} (h : v'.ownBlock = v.ownBlock ∨ v'.ownBlock = some B) (hk : v'.ownBlock = some k) : v.ownBlock = some k ∨ B ≤ k := by
  rcases h with h | h
  · exact .inl (h ▸ hk)
  · rw [h] at hk; exact .inr (by have := Option.some.inj hk; omega)
set_option maxHeartbeats 2000000 in
theorem framed_any (v : Value) (b : Sec) (s : ByteArray) (h : w.ownsRow base 5 1 v b.length (bc b)) (hb : base ≤ w.heap.size) (hl : b.length ≤ 10000000) (hs : s.size ≤ 4096) :
    Calls Try.prog 33 #[v, .string s] w fun e w' => ∃ v', e = .returned v' ∧ w'.ownsRow base 5 1 v' (b ++ frame s).length (bc (b ++ frame s)) ∧ Touch (fun k => v.ownBlock = some k) w w' := by
  obtain ⟨ad, c, rfl, _⟩ := own_shape h
  obtain ⟨i0, hi, hz0, hz1, hz2⟩ := info_parts row5
  have HI := Lib.hid hi
  have HZZ := Lib.hid hz0
  obtain ⟨W1, hW1⟩ : ∃ W1, W1 = w.alloc (.cells #[.int .u8 ((s.size : Int) / 16777216), .int .u8 ((s.size : Int) / 65536), .int .u8 ((s.size : Int) / 256), .int .u8 ((s.size : Int) % 256)] 5) := ⟨_, rfl⟩
  have HX : Box W1 w.heap.size 5 (bc (be4 s.size)).toArray := by rw [hW1, bc_be4s _ hs]; exact Box.new w 5 _
  have HSRC := Lib.hid (show Src W1 (some ⟨w.heap.size, 0, none⟩) 4 1 (bc (be4 s.size)) from ⟨rfl, bc_one _, .inr ⟨_, rfl, fun j u hj => by rw [Addr.add_lit, Nat.zero_add, HX.cell j]; simpa using hj⟩⟩)
  have HO := Lib.hid (show W1.ownsRow base 5 1 (.slice ad b.length c) b.length (bc b) by rw [hW1]; exact own_stays h fun k hk => Below.heap_alloc w _ k (own_lt h k hk))
  have HT1 := Lib.hid (show Touch (fun k => (Value.slice ad b.length c).ownBlock = some k) w W1 by rw [hW1]; exact (Touch.refl _ _).alloc _)
  have HS1 := Lib.hid (show base ≤ W1.heap.size by rw [hW1, World.size_alloc]; omega)
  have HW1 := Lib.hid hW1
  clear h hi hz0 hW1 HX
  go_enter Try.func33, Try.ntmps33
  go_wp2_with (at_builtin; rw [← HW1.out]; refine wpList_append_at rfl (.tmp 8) (.tmp 20) 32 rfl base 5 i0 _ 1 1 Try.underlying32 HI.out HZZ.out hz1 hz2 rfl (by decide) _ _ _ rfl HO.out _ _ _ _ rfl HSRC.out ?c2 ?c3 HS1.out ?_)
  case c2 => unfold maxLen; omega
  case c3 => omega
  intro v2 w2 own2 g2 at2
  have hT2 := HT1.out.grown g2 (fun k hk => .inl hk)
  obtain ⟨ad2, c2, rfl, _⟩ := own_shape own2
  have HO2 := Lib.hid own2
  have HT2 := Lib.hid hT2
  have HS2 := Lib.hid (Nat.le_trans HS1.out g2.size)
  have HL2 := Lib.hid (fun k hk => own_at_lies (b := 0) (b' := 0) (e := 0) (s := 0) (m := 0) (m' := 0) (xs := []) (k := k) at2 hk)
  have HWS := Lib.hid (show w.heap.size ≤ W1.heap.size from HT1.out.size)
  have HWT := Lib.hid (show w.heap.size ≤ w2.heap.size from Nat.le_trans HT1.out.size g2.size)
  clear own2 g2 at2 hT2
  go_wp2_with (at_builtin; refine Lib.wpList_append_own_string _ rfl (.tmp 21) (.tmp 22) 32 9 rfl base 5 i0 Try.underlying32 Try.underlying9 HI.out HZZ.out hz1 hz2 _ _ _ rfl HO2.out s rfl ?d2 ?d3 HS2.out ?_)
  case d2 => unfold maxLen; omega
  case d3 => omega
  intro v3 w3 own3 g3 _
  have hT3 : Touch (fun k => (Value.slice ad b.length c).ownBlock = some k) w w3 := HT2.out.grown g3 (fun k hk => by
    rcases HL2.out k hk with h1 | h1
    · exact .inl h1
    · exact .inr (Nat.le_trans HWS.out h1))
  obtain ⟨ad3, c3, rfl, _⟩ := own_shape own3
  have HO3 := Lib.hid own3
  have HT3 := Lib.hid hT3
  clear own3 g3 hT3
  go_wp2_with fail
  go_ret
  refine ⟨_, rfl, ?_, HT3.out⟩
  have h1 := HO3.out
  have e1 : (b ++ frame s).length = b.length + 4 + s.size := by rw [List.length_append, frame_len]; omega
  have e2 : bc (b ++ frame s) = bc b ++ bc (be4 s.size) ++ Lib.strCells s := by rw [bc_str, frame, bc_app, bc_app, List.append_assoc]
  rw [e1, e2, List.append_assoc]
  exact h1
end Go.Proofs.Ytdiboicllolcnaa
