/- Clone; the parts of bytes; Get. Conditions: the bytes lie in memory. -/
import Derived.Test.YtadgnemfjmiafaaWd
import Derived.Test.YtadgnemfjmiafaaQB
namespace Go.Proofs.Ytadgnemfjmiafaa
open Go.RowKit

theorem Bytes.drop {w : World} {b off len : Nat} {zs : List Int} (h : Bytes w (some ⟨b, off, none⟩) len zs) (k : Nat) (hk : k ≤ len) : Bytes w (some ⟨b, off + k, none⟩) (len - k) (zs.drop k) := by
  obtain ⟨h1, h2, h3, h4⟩ := h
  refine ⟨by simp; omega, fun x hx => h2 x (List.mem_of_mem_drop hx), by omega, ?_⟩
  by_cases h0 : len - k = 0
  · exact .inl h0
  · rcases h4 with h4 | ⟨b', off', e, hc⟩
    · omega
    · obtain ⟨rfl, rfl⟩ : b = b' ∧ off = off' := by simpa using e
      refine .inr ⟨b, off + k, rfl, fun i hi => ?_⟩
      have := hc (k + i) (by omega)
      rw [show off + k + i = off + (k + i) by omega, this]
      simp [List.getD]
theorem Bytes.drewN {w : World} {a : Option Addr} {len : Nat} {zs : List Int} (h : Bytes w a len zs) (n : Nat) : Bytes (w.drewN n) a len zs := by
  obtain ⟨h1, h2, h3, h4⟩ := h
  refine ⟨h1, h2, h3, h4.imp id ?_⟩
  rintro ⟨b, off, rfl, hc⟩
  exact ⟨b, off, rfl, fun i hi => hc i hi⟩

theorem number_quiet {a : Option Addr} {len cap n : Nat} {zs : List Int} {w : World} (hB : Bytes w a len zs) (hl : 4 ≤ len) :
    Calls Try.prog 18 #[.slice a len cap] (w.drewN n) fun e w' => e = .returned (.int .u32 (numOf zs)) ∧ ∃ k, w' = w.drewN k :=
  (number_any a len cap zs _ (hB.drewN n) hl).mono fun _ _ ⟨h, k, hk⟩ => ⟨h, n + k, by rw [hk, World.drewN_drewN]⟩
theorem sum_quiet {a : Option Addr} {len cap n : Nat} {zs : List Int} {w : World} (hB : Bytes w a len zs) :
    Calls Try.prog 15 #[.slice a len cap] (w.drewN n) fun e w' => e = .returned (.int .u32 (Tally.sum zs).toNat) ∧ ∃ k, w' = w.drewN k :=
  Calls.quiet_of_same ((sum_any _ _ _ _ _ (hB.drewN n)).mono fun _ _ h => ⟨h.1, h.2.symm⟩)

theorem clone_any (x : Addr) (len cap : Nat) (zs : List Int) (w : World) (hB : Bytes w (some x) len zs) (hm : len ≤ 5000) : Calls Try.prog 19 #[.slice (some x) len cap] w (Gives w zs) := by
  obtain ⟨i0, hi, hz0, hz1, hz2⟩ := info_parts info5
  have HS := Lib.hid (hB.alloc (.cells #[] 5)).src
  have hl := hB.1
  clear hB
  have he : ∀ w : World, (binOp .eql 22 (.slice (some x) len cap) (.slice none 0 0)).run Try.prog w = .ok (.bool false) w := fun _ => rfl
  have HO := Lib.hid (World.ownsRow_lit (base := w.heap.size) (e := 5) (size := 1) w #[] 0 (Nat.le_refl _) (by decide) rfl)
  go_enter Try.func19, Try.ntmps19
  go_wp2_with (at_builtin; refine wpList_append_src rfl (.tmp 5) (.tmp 6) 22 rfl w.heap.size 5 i0 (.int .u8 0) 1 1 Try.underlying22 hi hz0 hz1 hz2 rfl (by decide) _ _ _ rfl HO.out _ _ _ _ rfl HS.out ?c2 ?c3 ?c4 ?_)
  case c2 => unfold maxLen; omega
  case c3 => omega

  intro v' w' own' g'
  have B' := ((Below.refl w.heap.size w).alloc (Nat.le_refl _) (.cells #[] 5)).grown g' (by simp) (own_ge HO.out)
  have HO' := Lib.hid (show w'.ownsRow w.heap.size 5 1 v' zs.length (zs.map (Value.int .u8)) by rw [hl]; simpa using own')
  clear own' g'
  go_wp2
  go_ret
  exact ⟨v', rfl, HO'.out, B'⟩

theorem addr_add (b off k : Nat) : (⟨b, off, none⟩ : Addr).add k = ⟨b, off + k, none⟩ := by
  unfold Addr.add; split <;> simp_all
theorem number_below {a : Option Addr} {len cap : Nat} {zs : List Int} {w : World} (hB : Bytes w a len zs) (hl : 4 ≤ len) :
    Calls Try.prog 18 #[.slice a len cap] w fun e w' => e = .returned (.int .u32 (numOf zs)) ∧ Below w.heap.size w w' :=
  (number_any a len cap zs _ hB hl).mono fun _ _ ⟨h, k, hk⟩ => ⟨h, by rw [hk]; exact Below.drewN (Below.refl _ _) k⟩
theorem run_from (b off len cap : Nat) (k : Nat) (h : k ≤ len) (hk : k < cap) (w : World) : (Instr.sliceAt 22 (.slice (some ⟨b, off, none⟩) len cap) (some (.int .i64 (k : Int))) none none).run Try.prog w = .ok (.slice (some ⟨b, off + k, none⟩) (len - k) (cap - k)) w := by
  have e : (sizeOf (Try.prog.elem 22)).run Try.prog w = .ok 1 w := by kernel_rfl
  rw [run_sliceAt_slice w 22 _ _ _ _ Try.underlying22, run_slice_l w 22 _ len cap Try.underlying22 .i64 k (by omega) (by omega), e]
  simp only [Result.andThen, sliced, Int.toNat_natCast, Nat.mul_one, Option.map_some, addr_add, if_neg (show ¬ cap = k by omega)]
theorem run_mid (b off len cap : Nat) (l k : Nat) (hl : l ≤ k) (h : k ≤ cap) (hk : l < cap) (w : World) : (Instr.sliceAt 22 (.slice (some ⟨b, off, none⟩) len cap) (some (.int .i64 (l : Int))) (some (.int .i64 (k : Int))) none).run Try.prog w = .ok (.slice (some ⟨b, off + l, none⟩) (k - l) (cap - l)) w := by
  have e : (sizeOf (Try.prog.elem 22)).run Try.prog w = .ok 1 w := by kernel_rfl
  rw [run_sliceAt_slice w 22 _ _ _ _ Try.underlying22, run_slice_lh w 22 _ len cap Try.underlying22 .i64 .i64 l k (by omega) (by omega) (by omega), e]
  simp only [Result.andThen, sliced, Int.toNat_natCast, Nat.mul_one, Option.map_some, addr_add, if_neg (show ¬ cap = l by omega)]

/-- what is taken out, how long its crate is, and what is amiss. -/
def getOf (zs : List Int) : List Int × Nat × Nat :=
  if zs.length < 8 then ([], 0, 30) else if numOf (zs.drop 4) ≠ (Tally.sum (zs.take 4)).toNat then ([], 0, 32) else if 4096 < numOf zs then ([], 0, 31)
  else if zs.length < numOf zs + 12 then ([], 0, 30) else if numOf (zs.drop (8 + numOf zs)) ≠ (Tally.sum ((zs.drop 8).take (numOf zs))).toNat then ([], 0, 32)
  else ((zs.drop 8).take (numOf zs), numOf zs + 12, 0)

def Got (w : World) (zs : List Int) (e : Ending) (w' : World) : Prop :=
  ∃ ad c, e = .returned (.tuple #[.slice ad (getOf zs).1.length c, .int .i64 ((getOf zs).2.1 : Nat), .int .i64 ((getOf zs).2.2 : Nat)]) ∧ (getOf zs).1.length ≤ c ∧ Bytes w' ad (getOf zs).1.length (getOf zs).1 ∧ Below w.heap.size w w'
theorem Got.nil {w w' : World} {zs : List Int} {k : Nat} (h : getOf zs = ([], 0, k)) (hb : Below w.heap.size w w') : Got w zs (.returned (.tuple #[.slice none 0 0, .int .i64 0, .int .i64 k])) w' := by
  refine ⟨none, 0, by rw [h]; rfl, by rw [h]; exact Nat.le_refl _, ?_, hb⟩
  rw [h]; exact ⟨rfl, by simp, Nat.zero_le _, .inl rfl⟩
theorem Bytes.ptr {w : World} {a : Option Addr} {len : Nat} {zs : List Int} (h : Bytes w a len zs) (h0 : 0 < len) : ∃ b off, a = some ⟨b, off, none⟩ := by
  obtain ⟨b, off, rfl, _⟩ := h.2.2.2.resolve_left (by omega)
  exact ⟨b, off, rfl⟩

theorem get_any (a : Option Addr) (len cap : Nat) (zs : List Int) (w : World) (hB : Bytes w a len zs) (hc : len ≤ cap) : Calls Try.prog 11 #[.slice a len cap] w (Got w zs) := by
  have hl := hB.1
  have hcap := hB.2.2.1
  unfold maxLen at hcap
  by_cases h8 : len < 8
  · have hg : getOf zs = ([], 0, 30) := by rw [getOf, if_pos (by omega)]
    clear hB
    go_enter Try.func11, Try.ntmps11
    go_wp2
    exact bodyPost_ret (v := .tuple #[.slice none 0 0, .int .i64 0, .int .i64 30]) (by simp [results, Try.results11, go_sem]) rfl (Got.nil hg (Below.refl _ _))
  · obtain ⟨b, off, rfl⟩ := hB.ptr (by omega)
    have HB := Lib.hid hB
    have C1 := Lib.hid (number_below (cap := cap) hB (by omega))
    have s4 : ∀ w : World, (Instr.sliceAt 22 (.slice (some ⟨b, off, none⟩) len cap) (some (.int .i64 4)) none none).run Try.prog w = .ok (.slice (some ⟨b, off + 4, none⟩) (len - 4) (cap - 4)) w := run_from b off len cap 4 (by omega) (by omega)
    have st : ∀ w : World, (Instr.sliceAt 22 (.slice (some ⟨b, off, none⟩) len cap) none (some (.int .i64 4)) none).run Try.prog w = .ok (.slice (some ⟨b, off, none⟩) 4 cap) w := run_front (some ⟨b, off, none⟩) len cap 4 (by omega)
    clear hB
    go_enter Try.func11, Try.ntmps11
    go_wp2_with fail
    refine C1.out.mono ?_
    rintro e w1 ⟨rfl, bel1⟩
    have HB1 := Lib.hid (HB.out.below bel1)
    have HB4 := Lib.hid (HB1.out.drop 4 (by omega))
    have HBt := Lib.hid (HB1.out.take 4 (by omega))
    clear C1
    go_wp2
    go_quiet (first | (go_at_call 18; exact number_quiet HB4.out (by omega)) | (go_at_call 15; exact sum_quiet HBt.out))
    have hN0 : numOf zs = numOf zs := rfl
    by_cases hs : numOf (zs.drop 4) = (Tally.sum (zs.take 4)).toNat
    · have hb1 : (((numOf (zs.drop 4) : Nat) : Int) != (((Tally.sum (zs.take 4)).toNat : Nat) : Int)) = false := by rw [hs]; exact bne_self_eq_false _
      by_cases hbig : 4096 < numOf zs
      · have hg : getOf zs = ([], 0, 31) := by rw [getOf, if_neg (by omega), if_neg (by simpa using hs), if_pos hbig]
        clear hs
        go_wp2
        exact bodyPost_ret (v := .tuple #[.slice none 0 0, .int .i64 0, .int .i64 31]) (by simp [results, Try.results11, go_sem]) rfl (Got.nil hg (Below.drewN bel1 _))
      · by_cases hcut : len < numOf zs + 12
        · have hg : getOf zs = ([], 0, 30) := by rw [getOf, if_neg (by omega), if_neg (by simpa using hs), if_neg hbig, if_pos (by omega)]
          clear hs
          have h1 : (len : Int) < 8 + (numOf zs : Int) + 4 := by omega
          go_wp2
          exact bodyPost_ret (v := .tuple #[.slice none 0 0, .int .i64 0, .int .i64 30]) (by simp [results, Try.results11, go_sem]) rfl (Got.nil hg (Below.drewN bel1 _))
        · have hg : getOf zs = if numOf (zs.drop (8 + numOf zs)) ≠ (Tally.sum ((zs.drop 8).take (numOf zs))).toNat then ([], 0, 32) else ((zs.drop 8).take (numOf zs), numOf zs + 12, 0) := by
            rw [getOf, if_neg (by omega), if_neg (by simpa using hs), if_neg hbig, if_neg (by omega)]
          have h1 : ¬ (len : Int) < 8 + (numOf zs : Int) + 4 := by omega
          have HBb := Lib.hid ((HB1.out.drop 8 (by omega)).take (numOf zs) (by omega))
          have HBr := Lib.hid (HB1.out.drop (8 + numOf zs) (by omega))
          have HG := Lib.hid hg
          obtain ⟨N, hN⟩ : ∃ N, N = numOf zs := ⟨_, rfl⟩
          rw [← hN] at HBb HBr HG hcut hbig h1 ⊢
          have sm : ∀ w : World, (Instr.sliceAt 22 (.slice (some ⟨b, off, none⟩) len cap) (some (.int .i64 8)) (some (.int .i64 (8 + (N : Int)))) none).run Try.prog w = .ok (.slice (some ⟨b, off + 8, none⟩) N (cap - 8)) w := fun w => by
            have := run_mid b off len cap 8 (8 + N) (by omega) (by omega) (by omega) w
            simpa using this
          have sr : ∀ w : World, (Instr.sliceAt 22 (.slice (some ⟨b, off, none⟩) len cap) (some (.int .i64 (8 + (N : Int)))) none none).run Try.prog w = .ok (.slice (some ⟨b, off + (8 + N), none⟩) (len - (8 + N)) (cap - (8 + N))) w := fun w => by
            have := run_from b off len cap (8 + N) (by omega) (by omega) w
            simpa using this
          obtain ⟨body, hbody⟩ : ∃ l, l = (zs.drop 8).take N := ⟨_, rfl⟩
          rw [← hbody] at HBb HG
          obtain ⟨R, hR⟩ : ∃ R, R = numOf (zs.drop (8 + N)) := ⟨_, rfl⟩
          obtain ⟨S, hS⟩ : ∃ S, S = (Tally.sum body).toNat := ⟨_, rfl⟩
          rw [← hR, ← hS] at HG
          clear hs hN0 hg hbody hN
          go_wp2_with fail
          refine (number_quiet HBr.out (by omega)).mono ?_
          rintro e w2 ⟨rfl, n2, rfl⟩
          go_wp2_with fail
          refine (sum_any _ _ _ _ _ (HBb.out.drewN _)).mono ?_
          rintro e w2 ⟨rfl, rfl⟩
          rw [← hR, ← hS]
          clear hR hS
          by_cases hv : R = S
          · subst hv
            have hg : getOf zs = (body, N + 12, 0) := by rw [HG.out]; simp
            have CC := Lib.hid (fun w => clone_any ⟨b, off + 8, none⟩ N (cap - 8) body w)
            go_wp2_with fail
            refine (CC.out _ (HBb.out.drewN _) (by omega)).mono ?_
            rintro e w3 ⟨v, rfl, own, bel⟩
            have hlb : body.length = N := HBb.out.1
            rw [hlb] at own
            obtain ⟨ad, c, rfl, hb⟩ := own_bytes own HBb.out.2.1 (by unfold maxLen; omega)
            have hcc : N ≤ c := by
              rcases own.2 with ⟨h, h'⟩ | ⟨g, cap', cur, h, _, _, h', _⟩
              · injection h; omega
              · injection h; omega
            have HBf := Lib.hid hb
            have HL := Lib.hid ((Below.drewN bel1 n2).trans (bel.mono (Below.drewN bel1 n2).size))
            clear own hb bel CC
            go_wp2
            refine bodyPost_ret (v := .tuple #[.slice ad N c, .int .i64 (8 + (N : Int) + 4), .int .i64 0]) (by simp [results, Try.results11, go_sem]) rfl ⟨ad, c, ?_, ?_, ?_, HL.out⟩
            · rw [hg]
              simp only [hlb]
              rw [show (8 + (N : Int) + 4) = ((N + 12 : Nat) : Int) by omega]
              rfl
            · rw [hg]; simp only [hlb]; exact hcc
            · rw [hg]; simp only [hlb]; exact HBf.out
          · have hv1 : ((R : Int) != (S : Int)) = true := by simp; omega
            have hg : getOf zs = ([], 0, 32) := by rw [HG.out, if_pos hv]
            clear hv
            go_wp2
            exact bodyPost_ret (v := .tuple #[.slice none 0 0, .int .i64 0, .int .i64 32]) (by simp [results, Try.results11, go_sem]) rfl (Got.nil hg (Below.drewN bel1 _))
    · have hb1 : (((numOf (zs.drop 4) : Nat) : Int) != (((Tally.sum (zs.take 4)).toNat : Nat) : Int)) = true := by simp; omega
      have hg : getOf zs = ([], 0, 32) := by rw [getOf, if_neg (by omega), if_pos hs]
      clear hs
      go_wp2
      exact bodyPost_ret (v := .tuple #[.slice none 0 0, .int .i64 0, .int .i64 32]) (by simp [results, Try.results11, go_sem]) rfl (Got.nil hg (Below.drewN bel1 _))
end Go.Proofs.Ytadgnemfjmiafaa
