/- The walk of ParcelsInOrder. Conditions: the packets lie in memory. -/
import Derived.Test.YtejoggbebmmlkaaWh
import Derived.Test.YtejoggbebmmlkaaOpenS
namespace Go.Proofs.Ytejoggbebmmlkaa
open Go.RowKit Go.ChangeShapes Go.WideShapes Go.ChangeAt
set_option linter.unusedVariables false
set_option linter.unusedSimpArgs false

theorem shape27 {H : Type} {enc : TypeId × Value → H} {W : World} {n : Nat} {r : List Value} {y : DataW H × List MemPlace} (h : DataW.trod enc Try.prog W 0 (fun _ => true) true n 27 r = some y) (hr : r.length = 3) : ∃ p : Pk, r = pc p := by
  obtain ⟨xs, n', _, _, _, hlen, hg⟩ := DataW.trod_struct Try.underlying27 h
  match r, hr with
  | [c0, c1, c2], _ =>
    match xs, hlen with
    | [y0, y1, y2], _ =>
      have h0 := hg 0 _ rfl
      have h1 := hg 1 _ rfl
      have h2 := hg 2 _ rfl
      have k3 : Try.prog.cellsOf 3 = 1 := by kernel_rfl
      have k9 : Try.prog.cellsOf 9 = 1 := by kernel_rfl
      simp [k3, k9] at h0 h1 h2
      obtain ⟨a, ha, _⟩ := DataW.trod_int Try.underlying3 h0
      obtain ⟨b, hb, _⟩ := DataW.trod_int Try.underlying3 h1
      obtain ⟨s, hs, _⟩ := DataW.trod_string Try.underlying9 h2
      simp at ha hb hs
      exact ⟨(a, b, s), by rw [ha, hb, hs]; rfl⟩
theorem rows_pk {l : List (List Value)} (h : ∀ r ∈ l, ∃ p : Pk, r = pc p) : ∃ ps : List Pk, l = ps.map pc := by
  induction l with
  | nil => exact ⟨[], rfl⟩
  | cons r l ih =>
    obtain ⟨p, rfl⟩ := h r (by simp)
    obtain ⟨ps, rfl⟩ := ih fun r hr => h r (by simp [hr])
    exact ⟨p :: ps, rfl⟩
/-- packets that come in. -/
def PktsAt (w : World) (a : Option Addr) (len : Nat) (ps : List Pk) : Prop := RowsAt w 3 a len (ps.map pc)
theorem PktsAt.get {w : World} {a : Option Addr} {len : Nat} {ps : List Pk} (h : PktsAt w a len ps) (k : Nat) (hk : k < len) :
    ∃ b off p, a = some ⟨b, off, none⟩ ∧ ps[k]? = some p ∧ b < w.heap.size ∧ w.cell? ⟨b, off + k * 3, none⟩ = some (.int .i64 p.1) ∧ w.cell? ⟨b, off + k * 3 + 1, none⟩ = some (.int .i64 p.2.1) ∧ w.cell? ⟨b, off + k * 3 + 2, none⟩ = some (.string p.2.2) := by
  obtain ⟨h1, h2⟩ := h
  rw [List.length_map] at h1
  obtain ⟨b, off, rfl, hb, hc⟩ := h2.resolve_left (by omega)
  have hp : ps[k]? = some (ps[k]'(by omega)) := List.getElem?_eq_getElem (by omega)
  have hr : (ps.map pc)[k]? = some (pc (ps[k]'(by omega))) := by rw [List.getElem?_map, hp]; rfl
  exact ⟨b, off, _, rfl, hp, hb, hc k _ hr 0 _ rfl, hc k _ hr 1 _ rfl, hc k _ hr 2 _ rfl⟩
theorem open_pkts {H : Type} {enc : TypeId × Value → H} {W : World} {base : Nat} {v : Value} {d : DataW H} {p : List MemPlace} (hv : Value.okWide Try.prog W .any base 22 v) (h : DataW.Trod enc Try.prog W 0 (fun _ => true) true 22 v d p) :
    ∃ a len cap ps, v = .slice a len cap ∧ PktsAt W a len ps ∧ len ≤ cap ∧ cap ≤ maxLen := by
  obtain ⟨a, len, cap, rfl⟩ := okWide_slice Try.underlying22 hv
  obtain ⟨rows, hr, _, h1, h2, hs⟩ := open_rows Try.underlying22 (show Try.prog.cellsOf 27 = 3 by kernel_rfl) (by omega) h
  obtain ⟨ps, rfl⟩ := rows_pk fun r hrm => by
    obtain ⟨hl, n, y, hy⟩ := hs r hrm
    exact shape27 hy hl
  exact ⟨a, len, cap, ps, rfl, hr, h1, h2⟩

theorem take_snoc {α : Type} (l : List α) (k : Nat) (p : α) (h : l[k]? = some p) : l.take (k + 1) = l.take k ++ [p] := by
  rw [List.take_add_one, h]; rfl

set_option maxHeartbeats 400000 in
theorem inOrder_core (W : World) (a : Option Addr) (len cap : Nat) (ps : List Pk) (hP : PktsAt W a len ps) (hm : len ≤ maxLen) :
    Calls Try.prog 3 #[.slice a len cap] W fun e W' => e = .returned (.bool true) ∧ Below W.heap.size W W' := by
  unfold maxLen at hm
  have C0 := Lib.hid (new_net W)
  have HP := Lib.hid hP
  clear hP
  by_cases hbig : len > 500
  · go_enter Try.func3, Try.ntmps3
    go_wp2_with fail
    refine C0.out.mono ?_
    rintro e w1 ⟨rfl, hN1, bel1⟩
    go_wp2_with fail
    refine (alive_any _).mono ?_
    rintro e w2 ⟨rfl, bel2⟩
    go_wp2
    go_ret
    exact ⟨rfl, bel1.trans (bel2.mono bel1.size)⟩
  · go_enter Try.func3, Try.ntmps3
    go_wp2_with fail
    refine C0.out.mono ?_
    rintro e w1 ⟨rfl, hN1, bel1⟩
    have HN1 := Lib.hid hN1
    have HB1 := Lib.hid bel1
    have hl1 := hN1.box.lt
    clear hN1 bel1 C0
    go_wp2
    go_loopw [25] (fun i wr => ∃ (k : Nat) (v : Value), k ≤ len ∧ i = .int .i64 k ∧ Net wr W.heap.size (W.heap.size + 1) W.heap.size v (ps.take k) [] ∧ Below W.heap.size W wr) (fun i _ => len - (intOf i).toNat)
    case atStart => exact ⟨0, _, Nat.zero_le _, rfl, HN1.out, HB1.out⟩
    case round =>
      obtain ⟨k, v, hk, rfl, hN, hbel⟩ := hrel
      have HN := Lib.hid hN
      have HB := Lib.hid hbel
      by_cases hlt : k < len
      · obtain ⟨b, off, p, rfl, hp, hb, d0, d1, d2⟩ := HP.out.get k hlt
        rw [← hbel.cell (p := ⟨b, _, none⟩) hb] at d0 d1 d2
        have hbr : b < wr.heap.size := Nat.lt_of_lt_of_le hb hbel.size
        have C1 := Lib.hid (send_ok p (hN.alloc (.cells #[.int .i64 p.1, .int .i64 p.2.1, .string p.2.2] 27)) (Nat.le_trans hbel.size (by simp)) (by rw [List.length_take]; omega) (by simp))
        have HPK := Lib.hid hp
        unfold pv at C1
        clear hN hbel hp
        go_wp2_with fail
        refine C1.out.mono ?_
        rintro e w2 ⟨rfl, v2, hN2, g2⟩
        rw [← take_snoc ps k p HPK.out] at hN2
        have HN2 := Lib.hid hN2
        have HB2 := Lib.hid (g2.below (HB.out.alloc HB.out.size _) (Nat.le_refl _) HN.out.of_ge)
        clear hN2 g2 C1 d0 d1 d2
        go_wp2
        go_roundw
        case rel => exact ⟨k + 1, v2, by omega, by go_num, HN2.out, HB2.out⟩
        case measure => simp [intOf]; omega
      · obtain rfl : k = len := by omega
        clear hN hbel
        have hall : ps.take k = ps := List.take_of_length_le (by have := HP.out.1; rw [List.length_map] at this; omega)
        rw [hall] at HN
        clear hall
        go_wp2
        go_loopw [36] (fun i wr => ∃ (j : Nat) (v : Value), j ≤ k ∧ i = .int .i64 j ∧ Net wr W.heap.size (W.heap.size + 1) W.heap.size v (ps.drop j) [] ∧ Below W.heap.size W wr) (fun i _ => k - (intOf i).toNat)
        case atStart => exact ⟨0, _, Nat.zero_le _, rfl, HN.out, HB.out⟩
        case round =>
          obtain ⟨j, v, hj, rfl, hN, hbel⟩ := hrel
          have HN := Lib.hid hN
          have HB := Lib.hid hbel
          by_cases hlt2 : j < k
          · obtain ⟨b, off, p, rfl, hp, hb, d0, d1, d2⟩ := HP.out.get j hlt2
            rw [← hbel.cell (p := ⟨b, _, none⟩) hb] at d0 d1 d2
            have hbr : b < wr.heap.size := Nat.lt_of_lt_of_le hb hbel.size
            have hpl := HP.out.1
            rw [List.length_map] at hpl
            have C1 := Lib.hid (take_yes 0 p (hN.alloc (.cells #[.int .i64 p.1, .int .i64 p.2.1, .string p.2.2] 27)) (Nat.le_trans hbel.size (by simp)) (by rw [List.getElem?_drop]; exact hp) (by rw [List.length_drop]; omega))
            have HBX := Lib.hid (Box.new wr 27 #[.int .i64 p.1, .int .i64 p.2.1, .string p.2.2])
            unfold pv at C1
            clear hN hbel hp hpl
            go_wp2_with fail
            refine C1.out.mono ?_
            rintro e w2 ⟨rfl, v2, hN2, g2⟩
            rw [List.eraseIdx_zero, List.tail_drop] at hN2
            have HN2 := Lib.hid hN2
            have HBX2 := Lib.hid (HBX.out.touch g2.touch (fun hk => by have := HN.out.of_lt _ hk; omega))
            have HB2 := Lib.hid (g2.below (HB.out.alloc HB.out.size _) (Nat.le_refl _) HN.out.of_ge)
            have q0 : w2.cell? ⟨wr.heap.size, 0, none⟩ = some (.int .i64 p.1) := HBX2.out.cell 0
            have q1 : w2.cell? ⟨wr.heap.size, 1, none⟩ = some (.int .i64 p.2.1) := HBX2.out.cell 1
            have q2 : w2.cell? ⟨wr.heap.size, 2, none⟩ = some (.string p.2.2) := HBX2.out.cell 2
            have hw2 := HBX2.out.lt
            clear hN2 g2 C1 d0 d1 d2
            go_wp2
            go_roundw
            case rel => exact ⟨j + 1, v2, by omega, by go_num, HN2.out.alloc _, HB2.out.alloc HB2.out.size _⟩
            case measure => simp [intOf]; omega
          · obtain rfl : j = k := by omega
            clear hN hbel
            go_wp2_with fail
            refine (alive_any _).mono ?_
            rintro e w2 ⟨rfl, bel2⟩
            go_wp2_with fail
            refine (len_any (HN.out.below bel2 (Nat.le_refl _))).mono ?_
            rintro e w3 ⟨rfl, rfl⟩
            have hnil : ((ps.drop j).length : Int) = 0 := by have := HP.out.1; rw [List.length_map] at this; rw [List.length_drop]; omega
            rw [hnil]
            clear hnil
            go_wp2
            go_ret
            exact ⟨rfl, HB.out.trans (bel2.mono HB.out.size)⟩

theorem parcelsInOrder_walk {H : Type} {enc : TypeId × Value → H} {base : Nat} {p0 : List MemPlace} (W : World) (v0 : Value) (d0 : DataW H) (hv : Value.okWide Try.prog W .any base 22 v0) (h : DataW.Trod enc Try.prog W 0 (fun _ => true) true 22 v0 d0 p0) (_b : ∀ n ∈ d0.weights Try.prog 22, n ≤ 140737488351232) :
    Calls Try.prog 3 #[v0] W fun e W' => e = .returned (.bool true) ∧ Below W.heap.size W W' := by
  obtain ⟨a, len, cap, ps, rfl, hP, h1, h2⟩ := open_pkts hv h
  exact inOrder_core W a len cap ps hP (Nat.le_trans h1 h2)
end Go.Proofs.Ytejoggbebmmlkaa
