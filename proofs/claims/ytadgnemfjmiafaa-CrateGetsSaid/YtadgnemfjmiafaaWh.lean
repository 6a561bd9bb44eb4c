/- The document's Get. Conditions: the bytes lie in memory. -/
import Derived.Test.YtadgnemfjmiafaaWg
import Derived.Lib.Bytes
namespace Go.Proofs.Ytadgnemfjmiafaa
open Go.RowKit

theorem str_inj {x y : List Int} (hx : ∀ n ∈ x, 0 ≤ n ∧ n < 256) (hy : ∀ n ∈ y, 0 ≤ n ∧ n < 256) (h : (strOfNums x).toList = (strOfNums y).toList) : x = y := by
  rw [Lib.strOfNums_toList, Lib.strOfNums_toList] at h
  have : Lib.strCells (strOfNums x) = Lib.strCells (strOfNums y) := by
    unfold Lib.strCells
    rw [strOfNums_data, strOfNums_data]
    exact congrArg (List.map _) h
  rw [str_cells hx, str_cells hy] at this
  have h2 := congrArg (List.map intOf) this
  have e : ∀ l : List Int, (l.map (Value.int .u8)).map intOf = l := fun l => by
    rw [List.map_map]; exact List.map_id' l
  rwa [e, e] at h2

theorem take4 (l : List Int) (hr : ∀ n ∈ l, 0 ≤ n ∧ n < 256) (hl : 4 ≤ l.length) : l.take 4 = fourOf (numOf l) := by
  match l, hl with
  | a :: b :: c :: d :: t, _ =>
    have h1 := hr a (by simp)
    have h2 := hr b (by simp)
    have h3 := hr c (by simp)
    have h4 := hr d (by simp)
    have e : numOf (a :: b :: c :: d :: t) = a.toNat + 256 * b.toNat + 65536 * c.toNat + 16777216 * d.toNat := rfl
    rw [e]
    simp [fourOf]
    omega

theorem wrap_small (n : Int) (h : 0 ≤ n) (h' : n < 100000) : IntKind.i64.wrap n = n := by
  rw [IntKind.wrap_i64]; omega

theorem neq_q (l : List Int) (n : Nat) (hn : n < 4294967296) (hr : ∀ n ∈ l, 0 ≤ n ∧ n < 256) (hl : 4 ≤ l.length) {i : BEq (List UInt8)} [@LawfulBEq _ i] :
    @BEq.beq _ i (strOfNums (l.take 4)).toList (strOfNums (fourOf n)).toList = !(!(decide (numOf l = n))) := by
  rw [Bool.not_not]
  rw [Bool.eq_iff_iff, beq_iff_eq, decide_eq_true_iff]
  constructor
  · intro he
    have := str_inj (fun x hx => hr x (List.mem_of_mem_take hx)) (fourOf_range n) he
    have e : numOf (l.take 4 ++ l.drop 4) = n := by rw [this]; exact numOf_four n hn _
    rwa [List.take_append_drop] at e
  · intro h
    rw [take4 l hr hl, h]

theorem rget_any (a : Option Addr) (len cap : Nat) (zs : List Int) (w : World) (hB : Bytes w a len zs) (hc : len ≤ cap) : Calls Try.prog 12 #[.slice a len cap] w (Got w zs) := by
  have hl := hB.1
  have hcap := hB.2.2.1
  unfold maxLen at hcap
  by_cases h8 : len < 8
  · have hg : getOf zs = ([], 0, 30) := by rw [getOf, if_pos (by omega)]
    clear hB
    go_enter Try.func12, Try.ntmps12
    go_wp2
    exact bodyPost_ret (v := .tuple #[.slice none 0 0, .int .i64 0, .int .i64 30]) (by simp [results, Try.results12, go_sem]) rfl (Got.nil hg (Below.refl _ _))
  · obtain ⟨b, off, rfl⟩ := hB.ptr (by omega)
    have HB := Lib.hid hB
    have hr := Lib.hid hB.2.1
    have s4 : ∀ w : World, (Instr.sliceAt 22 (.slice (some ⟨b, off, none⟩) len cap) (some (.int .i64 4)) (some (.int .i64 8)) none).run Try.prog w = .ok (.slice (some ⟨b, off + 4, none⟩) 4 (cap - 4)) w := run_mid b off len cap 4 8 (by omega) (by omega) (by omega)
    have st : ∀ w : World, (Instr.sliceAt 22 (.slice (some ⟨b, off, none⟩) len cap) none (some (.int .i64 4)) none).run Try.prog w = .ok (.slice (some ⟨b, off, none⟩) 4 cap) w := run_front (some ⟨b, off, none⟩) len cap 4 (by omega)
    have HB4 := Lib.hid ((hB.drop 4 (by omega)).take 4 (by omega))
    have HBt := Lib.hid (hB.take 4 (by omega))
    have hr4 : ∀ n ∈ zs.drop 4, 0 ≤ n ∧ n < 256 := fun n hn => hr.out n (List.mem_of_mem_drop hn)
    have hl4 : 4 ≤ (zs.drop 4).length := by simp; omega
    obtain ⟨q, hq⟩ : ∃ q : Bool, q = !(decide (numOf (zs.drop 4) = (Tally.sum (zs.take 4)).toNat)) := ⟨_, rfl⟩
    have HQ := fun i j => @neq_q (zs.drop 4) (Tally.sum (zs.take 4)).toNat (BitVec.isLt _) hr4 hl4 i j
    rw [← hq] at HQ
    have HQ' := Lib.hid HQ
    have Hq := Lib.hid hq
    clear HQ hq
    clear hB
    go_enter Try.func12, Try.ntmps12
    go_wp2
    refine wp_region_below (B := w.heap.size) (w0 := w) (by kernel_rfl) (by kernel_rfl) (Below.refl _ _) ?_
    go_big_quiet_want; go_big_quiet_op; go_big_quiet_on
    go_big_quiet_want; apply quiet_value; (· (intro w hw; go_simp; try rfl)); simp only [Act.put, List.setIfInBounds_toArray, List.set_cons_succ, List.set_cons_zero]; go_big_quiet_on
    go_big_quiet_want; apply quiet_value; (· (intro w hw; have := (HB4.out.below hw).str (cap - 4); go_simp; try rfl)); simp only [Act.put, List.setIfInBounds_toArray, List.set_cons_succ, List.set_cons_zero]; go_big_quiet_on
    go_big_quiet_want; go_big_quiet_op; go_big_quiet_on
    go_big_quiet_want; apply quiet_value; (· (intro w hw; go_simp; try rfl)); simp only [Act.put, List.setIfInBounds_toArray, List.set_cons_succ, List.set_cons_zero]; go_big_quiet_on
    go_big_quiet_want; apply quiet_call (f := 17); (· (intro w hw; go_simp; try rfl)); (· (exact fun w hw => in_below (rsumS_any _ _ _ _ w (HBt.out.below hw)) hw (Nat.le_refl _))); simp only [Act.put, List.setIfInBounds_toArray, List.set_cons_succ, List.set_cons_zero]; go_big_quiet_on
    go_big_quiet_want; apply quiet_value (v := .bool q); (· (intro w hw; go_simp; first | exact HQ'.out _ inferInstance | exact congrArg (fun b => Result.ok (Next.value (Value.bool b)) w) (HQ'.out _ _) | go_goals)); simp only [Act.put, List.setIfInBounds_toArray, List.set_cons_succ, List.set_cons_zero]; go_big_quiet_on
    refine wpQuiet_nil ?_
    intro w2 hb2
    by_cases hs : numOf (zs.drop 4) = (Tally.sum (zs.take 4)).toNat
    · have hq1 : q = false := by rw [Hq.out]; simpa using hs
      clear Hq HQ'
      subst hq1
      obtain ⟨b0, o0, x0, h, c0, p0, q0, e0, _⟩ := (HB.out.below hb2).get 0 (by omega)
      obtain ⟨rfl, rfl⟩ : b = b0 ∧ off = o0 := by simpa using h
      clear h
      obtain ⟨b1, off1, x1, h, c1, p1, q1, e1, _⟩ := (HB.out.below hb2).get 1 (by omega)
      obtain ⟨rfl, rfl⟩ : b = b1 ∧ off = off1 := by simpa using h
      clear h
      obtain ⟨b1, off1, x2, h, c2, p2, q2, e2, _⟩ := (HB.out.below hb2).get 2 (by omega)
      obtain ⟨rfl, rfl⟩ : b = b1 ∧ off = off1 := by simpa using h
      clear h
      obtain ⟨b1, off1, x3, h, c3, p3, q3, e3, _⟩ := (HB.out.below hb2).get 3 (by omega)
      obtain ⟨rfl, rfl⟩ : b = b1 ∧ off = off1 := by simpa using h
      clear h
      obtain ⟨y0, rfl⟩ := Int.eq_ofNat_of_zero_le p0
      obtain ⟨y1, rfl⟩ := Int.eq_ofNat_of_zero_le p1
      obtain ⟨y2, rfl⟩ := Int.eq_ofNat_of_zero_le p2
      obtain ⟨y3, rfl⟩ := Int.eq_ofNat_of_zero_le p3
      obtain ⟨N, hN⟩ : ∃ N, N = numOf zs := ⟨_, rfl⟩
      have HN : Hid (N = y0 + 256 * y1 + 65536 * y2 + 16777216 * y3) := by
        show _ = _
        rw [hN, numOf, ← e0, ← e1, ← e2, ← e3]; simp
      have HE : Hid ((y0 : Int) + 256 * (y1 : Int) + 65536 * (y2 : Int) + 16777216 * (y3 : Int) = (N : Int)) := by
        show _ = _
        rw [HN.out]; omega
      have HH := Lib.hid hN
      have HS := Lib.hid hs
      clear e0 e1 e2 e3 hN hs hr4 hl4
      rw [Nat.add_zero] at c0
      have l0 : 0 < len := by omega
      have l1 : 1 < len := by omega
      have l2 : 2 < len := by omega
      have l3 : 3 < len := by omega
      have HC := Lib.hid hcap
      clear hcap
      go_wp2
      go_region
      rw [HE.out]
      clear c0 c1 c2 c3 p0 p1 p2 p3 q0 q1 q2 q3 l0 l1 l2 l3 HE HN
      have bel2 := Below.drewN hb2 1
      by_cases hbig : 4096 < N
      · have hg : getOf zs = ([], 0, 31) := by rw [getOf, if_neg (by omega), if_neg (by simpa using HS.out), ← HH.out, if_pos hbig]
        go_wp2
        exact bodyPost_ret (v := .tuple #[.slice none 0 0, .int .i64 0, .int .i64 31]) (by simp [results, Try.results12, go_sem]) rfl (Got.nil hg bel2)
      · by_cases hcut : len < N + 12
        · have hg : getOf zs = ([], 0, 30) := by rw [getOf, if_neg (by omega), if_neg (by simpa using HS.out), ← HH.out, if_neg hbig, if_pos (by omega)]
          have h1 : (len : Int) < (N : Int) + 12 := by omega
          go_wp2
          exact bodyPost_ret (v := .tuple #[.slice none 0 0, .int .i64 0, .int .i64 30]) (by simp [results, Try.results12, go_sem]) rfl (Got.nil hg bel2)
        · have hg : getOf zs = if numOf (zs.drop (8 + N)) ≠ (Tally.sum ((zs.drop 8).take N)).toNat then ([], 0, 32) else ((zs.drop 8).take N, N + 12, 0) := by
            rw [getOf, if_neg (by omega), if_neg (by simpa using HS.out), ← HH.out, if_neg hbig, if_neg (by omega)]
          have h1 : ¬ (len : Int) < (N : Int) + 12 := by omega
          have HBb := Lib.hid ((HB.out.drop 8 (by omega)).take N (by omega))
          have HB4 := Lib.hid ((HB.out.drop (8 + N) (by omega)).take 4 (by omega))
          have HG := Lib.hid hg
          have sA : ∀ w : World, (Instr.sliceAt 22 (.slice (some ⟨b, off, none⟩) len cap) (some (.int .i64 (8 + (N : Int)))) (some (.int .i64 (12 + (N : Int)))) none).run Try.prog w = .ok (.slice (some ⟨b, off + (8 + N), none⟩) 4 (cap - (8 + N))) w := fun w => by
            have := run_mid b off len cap (8 + N) (12 + N) (by omega) (by omega) (by omega) w
            rw [show 12 + N - (8 + N) = 4 by omega] at this
            simpa using this
          have sB : ∀ w : World, (Instr.sliceAt 22 (.slice (some ⟨b, off, none⟩) len cap) (some (.int .i64 8)) (some (.int .i64 (8 + (N : Int)))) none).run Try.prog w = .ok (.slice (some ⟨b, off + 8, none⟩) N (cap - 8)) w := fun w => by
            have := run_mid b off len cap 8 (8 + N) (by omega) (by omega) (by omega) w
            simpa using this
          obtain ⟨body, hbody⟩ : ∃ l, l = (zs.drop 8).take N := ⟨_, rfl⟩
          rw [← hbody] at HBb HG
          obtain ⟨q, hq⟩ : ∃ q : Bool, q = !(decide (numOf (zs.drop (8 + N)) = (Tally.sum body).toNat)) := ⟨_, rfl⟩
          have HQ := fun i j => @neq_q (zs.drop (8 + N)) (Tally.sum body).toNat (BitVec.isLt _) (fun n hn => hr.out n (List.mem_of_mem_drop hn)) (by simp; omega) i j
          rw [← hq] at HQ
          have HQ2 := Lib.hid HQ
          have Hq := Lib.hid hq
          clear HQ hq hg hbody s4 st HBt HS HH
          have hlb : body.length = N := HBb.out.1
          have e8 : IntKind.i64.wrap (8 + (N : Int)) = 8 + (N : Int) := wrap_small _ (by omega) (by omega)
          have e12 : IntKind.i64.wrap (12 + (N : Int)) = 12 + (N : Int) := wrap_small _ (by omega) (by omega)
          go_wp2
          refine wp_region_below (B := w.heap.size) (w0 := w) (by kernel_rfl) (by kernel_rfl) bel2 ?_
          go_big_quiet_want; go_big_quiet_op; go_big_quiet_on
          go_big_quiet_want; go_big_quiet_op; go_big_quiet_on
          go_big_quiet_want; apply quiet_value; (· (intro w hw; go_simp; try rfl)); simp only [Act.put, List.setIfInBounds_toArray, List.set_cons_succ, List.set_cons_zero]; go_big_quiet_on
          go_big_quiet_want; go_big_quiet_op; go_big_quiet_on
          go_big_quiet_want; apply quiet_value; (· (intro w hw; go_simp; try rfl)); simp only [Act.put, List.setIfInBounds_toArray, List.set_cons_succ, List.set_cons_zero]; go_big_quiet_on
          go_big_quiet_want; apply quiet_value; (· (intro w hw; go_simp; try rfl)); simp only [Act.put, List.setIfInBounds_toArray, List.set_cons_succ, List.set_cons_zero]; go_big_quiet_on
          go_big_quiet_want; apply quiet_value; (· (intro w hw; have := (HB4.out.below hw).str (cap - (8 + N)); go_simp; try rfl)); simp only [Act.put, List.setIfInBounds_toArray, List.set_cons_succ, List.set_cons_zero]; go_big_quiet_on
          go_big_quiet_want; go_big_quiet_op; go_big_quiet_on
          go_big_quiet_want; go_big_quiet_op; go_big_quiet_on
          go_big_quiet_want; apply quiet_value; (· (intro w hw; go_simp; try rfl)); simp only [Act.put, List.setIfInBounds_toArray, List.set_cons_succ, List.set_cons_zero]; go_big_quiet_on
          go_big_quiet_want; apply quiet_value; (· (intro w hw; go_simp; try rfl)); simp only [Act.put, List.setIfInBounds_toArray, List.set_cons_succ, List.set_cons_zero]; go_big_quiet_on
          go_big_quiet_want; apply quiet_call (f := 17); (· (intro w hw; go_simp; try rfl)); (· (exact fun w hw => in_below (rsumS_any _ _ _ _ w (HBb.out.below hw)) hw (Nat.le_refl _))); simp only [Act.put, List.setIfInBounds_toArray, List.set_cons_succ, List.set_cons_zero]; go_big_quiet_on
          go_big_quiet_want; apply quiet_value (v := .bool q); (· (intro w hw; go_simp; first | exact HQ2.out _ inferInstance | exact congrArg (fun b => Result.ok (Next.value (Value.bool b)) w) (HQ2.out _ _) | go_goals)); simp only [Act.put, List.setIfInBounds_toArray, List.set_cons_succ, List.set_cons_zero]; go_big_quiet_on
          refine wpQuiet_nil ?_
          intro w3 hb3
          by_cases hv : numOf (zs.drop (8 + N)) = (Tally.sum body).toNat
          · have hq1 : q = false := by rw [Hq.out]; simpa using hv
            have hg : getOf zs = (body, N + 12, 0) := by rw [HG.out, if_neg (by simpa using hv)]
            clear Hq HQ2 hv HG
            subst hq1
            have HBf := Lib.hid (HBb.out.below hb3)
            go_wp2
            refine bodyPost_ret (v := .tuple #[.slice (some ⟨b, off + 8, none⟩) N (cap - 8), .int .i64 ((N : Int) + 12), .int .i64 0]) (by simp [results, Try.results12, go_sem]) rfl ⟨some ⟨b, off + 8, none⟩, cap - 8, ?_, ?_, ?_, hb3⟩
            · rw [hg]
              simp only [hlb]
              rfl
            · rw [hg]; simp only [hlb]; omega
            · rw [hg]; simp only [hlb]; exact HBf.out
          · have hq1 : q = true := by rw [Hq.out]; simpa using hv
            have hg : getOf zs = ([], 0, 32) := by rw [HG.out, if_pos hv]
            clear Hq HQ2 hv HG
            subst hq1
            go_wp2
            exact bodyPost_ret (v := .tuple #[.slice none 0 0, .int .i64 0, .int .i64 32]) (by simp [results, Try.results12, go_sem]) rfl (Got.nil hg hb3)
    · have hq1 : q = true := by rw [Hq.out]; simpa using hs
      clear Hq HQ'
      subst hq1
      have hg : getOf zs = ([], 0, 32) := by rw [getOf, if_neg (by omega), if_pos hs]
      clear hs hr4 hl4
      go_wp2
      exact bodyPost_ret (v := .tuple #[.slice none 0 0, .int .i64 0, .int .i64 32]) (by simp [results, Try.results12, go_sem]) rfl (Got.nil hg hb2)
end Go.Proofs.Ytadgnemfjmiafaa
