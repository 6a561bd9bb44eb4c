/- lease: Ended. Conditions: the table lies in the call's own memory; its leases are right. -/
import Derived.Test.YtkgnooogppkieaaLh
namespace Go.Proofs.Ytkgnooogppkieaa
open Go.RowKit Go.Shelf
set_option linter.unusedVariables false
set_option linter.unusedSimpArgs false
attribute [local go_sem] Oper.semAt_some
variable {w w' : World} {base n : Nat} {v : Value} {L : List Lz}

theorem late_any (w : World) (p : Option Addr) (now : Int) : Calls Try.prog 33 #[.pointer p, .int .i64 now] w fun e w' =>
    e = .returned (.func (.func 45) #[] #[.pointer (some ⟨w.heap.size, 0, none⟩), .pointer (some ⟨w.heap.size + 1, 0, none⟩)]) ∧ w' = (w.alloc (.cells #[.pointer p] 22)).alloc (.cells #[.int .i64 now] 3) := by
  go_enter Try.func33, Try.ntmps33
  go_wp2
  go_ret
  exact ⟨rfl, rfl⟩
def ids (L : List Lz) : List Value := L.map fun p => Value.int .i64 p.1
theorem ids_snoc (L : List Lz) (p : Lz) : ids (L ++ [p]) = ids L ++ [.int .i64 p.1] := by simp [ids]
theorem ended_no (now : Int) (w : World) (p : Option Addr) (hno : clockB now = false) :
    Calls Try.prog 14 #[.pointer p, .int .i64 now] w fun e w' => e = .returned (.slice none 0 0) ∧ w = w' := by
  have C1 := Lib.hid (clock_any now w)
  have h : (decide (0 ≤ now) && decide (now ≤ 1099511627776)) = false := hno
  rw [h] at C1
  clear h hno
  go_enter Try.func14, Try.ntmps14
  go_wp2_with fail
  refine C1.out.mono ?_
  rintro e w1 ⟨rfl, rfl⟩
  go_wp2
  go_ret
  exact ⟨rfl, rfl⟩

theorem row3 : (Try.prog.info? 3).map (fun i => (i.zero, i.size, i.bytes)) = some (some (.int .i64 0), 1, 8) := by kernel_rfl
set_option maxRecDepth 100000 in
set_option maxHeartbeats 4000000 in
theorem ended_yes (now : Int) (h : Tab w base n v L) (hb : base ≤ w.heap.size) (hl : L.length ≤ 1000) (hv : ∀ p ∈ L, rightB p = true) (hyes : clockB now = true) :
    Calls Try.prog 14 #[.pointer (some ⟨n, 0, none⟩), .int .i64 now] w fun e w' => ∃ v', e = .returned v' ∧ w'.ownsRow w.heap.size 3 1 v' (lateL L now L.length).length (ids (lateL L now L.length)) ∧ Below w.heap.size w w' := by
  have hc : (decide (0 ≤ now) && decide (now ≤ 1099511627776)) = true := hyes
  have hnow : 0 ≤ now ∧ now ≤ 1099511627776 := by simpa using hc
  have C1 := Lib.hid (clock_any now w)
  rw [hc] at C1
  have HT := Lib.hid h
  have HV := Lib.hid hv
  clear h hv hc hyes
  refine (callsIn_wide (n := 5)).1 ?_
  refine callsIn_of_wp_marks Try.func14 rfl trivial ?_ rfl
  simp only [Try.ntmps14, List.size_toArray, List.length_cons, List.length_nil, Nat.reduceAdd, Nat.reduceSub, Array.replicate_succ, Array.replicate_zero, List.push_toArray, List.append_toArray, List.nil_append, List.cons_append]
  gi_wp2_with (first
    | (refine ⟨trivial, ?_⟩; gi_at_call 32; refine (callsIn_wide.2 C1.out).mono ?_; rintro e w1 ⟨rfl, rfl⟩)
    | (gi_at_call 32; refine (callsIn_wide.2 C1.out).mono ?_; rintro e w1 ⟨rfl, rfl⟩)
    | (refine ⟨trivial, ?_⟩; gi_at_call 33; refine (callsIn_wide.2 (late_any _ _ _)).mono ?_; rintro e w1 ⟨rfl, rfl⟩)
    | (gi_at_call 33; refine (callsIn_wide.2 (late_any _ _ _)).mono ?_; rintro e w1 ⟨rfl, rfl⟩))
  have hB0 : Below w.heap.size w (((w.alloc (.cells #[.slice none 0 0] 34)).alloc (.cells #[.pointer (some ⟨n, 0, none⟩)] 22)).alloc (.cells #[.int .i64 now] 3)) := (((Below.refl _ w).alloc (Nat.le_refl _) _).alloc (by simp) _).alloc (by simp; omega) _
  have hO := Boxed.alloc (Boxed.alloc (Boxed.new w 34 (.slice none 0 0)) (.cells #[.pointer (some ⟨n, 0, none⟩)] 22)) (.cells #[.int .i64 now] 3)
  have hT := (Box.new (w.alloc (.cells #[.slice none 0 0] 34)) 22 #[.pointer (some ⟨n, 0, none⟩)]).alloc (.cells #[.int .i64 now] 3)
  have hN := Box.new ((w.alloc (.cells #[.slice none 0 0] 34)).alloc (.cells #[.pointer (some ⟨n, 0, none⟩)] 22)) 3 #[.int .i64 now]
  simp only [World.size_alloc] at hT hN
  have hsz : (((w.alloc (.cells #[.slice none 0 0] 34)).alloc (.cells #[.pointer (some ⟨n, 0, none⟩)] 22)).alloc (.cells #[.int .i64 now] 3)).heap.size = w.heap.size + 1 + 1 + 1 := by simp
  have hTab := HT.out.below hB0 (Nat.le_refl _)
  have holt := HT.out.of_lt
  generalize ((w.alloc (.cells #[.slice none 0 0] 34)).alloc (.cells #[.pointer (some ⟨n, 0, none⟩)] 22)).alloc (.cells #[.int .i64 now] 3) = W0 at hB0 hO hT hN hsz hTab ⊢
  obtain ⟨i0, hi, hz0, hz1, hz2⟩ := info_parts row3
  refine wpIn_rangeFunc_ownH (F := Fence.wide) rfl (by omega) (gf := 45) (lb := #[.pointer (some ⟨w.heap.size + 1, 0, none⟩), .pointer (some ⟨w.heap.size + 1 + 1, 0, none⟩)]) rfl trivial (enters_of Try.func45 (by kernel_rfl) rfl)
    (late_stops Fence.wide 4 trivial rfl (by omega) (w.heap.size + 1) (w.heap.size + 1 + 1) W0.heap.size w.heap.size base n v L now hl hnow HV.out W0 (Nat.le_refl _) hT hN ⟨by omega, by omega⟩ hTab (fun k hk => by have := holt k hk; omega))
    (fun a b => Keep.trans a b) (fun W l o o' hle hl hc hw => ⟨by simp [World.putObj], fun i hi hne => World.putObj_heap_other (by omega)⟩) (Below.refl _ _) (fun _ => rfl)
    (fun pre W => (∃ u, Boxed W w.heap.size 34 u ∧ W.ownsRow W0.heap.size 3 1 u pre.length (ids pre) ∧ True) ∧ (Below w.heap.size w W ∧ W0.heap.size ≤ W.heap.size))
    (fun _ _ _ => False)
    (OwnFrom.and (Own.from (holdsRow_own W0.heap.size w.heap.size 34 3 1 (fun pre => pre.length) (fun pre => ids pre) (fun _ _ => True)) _) (OwnFrom.and (ownFrom_below (Nat.le_refl _) (by omega)) (fun s A B row hs hg hr => Nat.le_trans hs hg.size)))
    (fun _ _ _ _ _ hs _ _ => hs)
    ⟨⟨_, hO, World.ownsRow_nil _ _ _ _, trivial⟩, hB0, Nat.le_refl _⟩
    (fun x a' W => ∃ Bx, W0.heap.size ≤ Bx ∧ Box W Bx 37 #[.int .i64 x.1, .int .i64 x.2.1, .int .i64 x.2.2] ∧ a' = { tmps := #[.pointer (some ⟨n, 0, none⟩), .int .i64 now, undef, undef, .slice none 0 0, .pointer (some ⟨w.heap.size, 0, none⟩), .pointer (some ⟨Bx, 0, none⟩), .int .i64 now, .bool true, .bool false, .pointer (some ⟨n, 0, none⟩), .int .i64 now, .func (.func 45) #[] #[.pointer (some ⟨w.heap.size + 1, 0, none⟩), .pointer (some ⟨w.heap.size + 1 + 1, 0, none⟩)], .agg #[.int .i64 x.1, .int .i64 x.2.1, .int .i64 x.2.2], undef, undef, undef, undef, undef, undef], defers := [] })
    (fun x a' _ A B row ⟨Bx, h1, h2, h3⟩ hg hr => ⟨Bx, h1, (hg.block Bx h2.lt (fun e => by
      obtain ⟨o, ho, hc⟩ := (hr _ e.symm).2
      rw [show A.heap[Bx]? = _ from h2] at ho; cases ho; cases hc)).trans h2, h3⟩)
    ?assign ?body ?done ?stop
  case assign =>
    rintro l pre x W K ⟨⟨u, hbx, hrow, _⟩, hB, hS⟩ hK
    unfold tv
    gi_wp2
    exact hK _ _ ((KeepsOthers.alloc _ _).from _) ((Keep.refl _ _ W).alloc hS _) ⟨⟨u, hbx.alloc _, hrow.alloc _, trivial⟩, hB.alloc hB.size _, Nat.le_trans hS (by simp)⟩ ⟨W.heap.size, hS, Box.new W 37 _, rfl⟩
  case body =>
    rintro l pre x a' W hll ⟨r, hr⟩ ⟨⟨u, hbx, hrow, _⟩, hB, hS⟩ ⟨Bx, hBx, bX, rfl⟩ hlen
    have hc := hbx.cell
    have hf := hbx.frozen
    have xc : W.cell? ⟨Bx, 0, none⟩ = some (.int .i64 x.1) := bX.cell 0
    have hwo := hbx.lt
    have hbl := bX.lt
    obtain ⟨ud, uc, rfl, _⟩ := own_shape hrow
    gi_wp2_with (gi_at_builtin; refine wpListIn_append_own _ rfl _ _ 34 rfl W0.heap.size 3 i0 _ 1 8 Try.underlying34 hi hz0 hz1 hz2 rfl (by decide) _ _ _ rfl (hrow.alloc _) ⟨W.heap.size, 0, none⟩ 1 1 [.int .i64 x.1] rfl rfl (cell_one_new _ _ _) (by simp [Value.oneCell']) (by unfold maxLen; omega) (by omega) (by simp; omega) ?_; intro v' w1 hown' hgrow hnil; obtain ⟨g', cap', rfl⟩ := ownsRow_succ hown'; have hv0 : Boxed (W.alloc (.cells #[.int .i64 x.1] 3)) w.heap.size 34 (.slice ud pre.length uc) := hbx.alloc _; have hr0 : (W.alloc (.cells #[.int .i64 x.1] 3)).ownsRow W0.heap.size 3 1 (.slice ud pre.length uc) pre.length (ids pre) := hrow.alloc _; have hv1 := hv0.kept hgrow (hv0.not_row (by decide) hr0); have hc1 := hv1.cell; have hf1 := hv1.frozen; have hw1 := hv1.lt)
    have hge := own_ge hr0
    have hcells : ∀ (j : Nat) (o : Obj), (Value.slice ud pre.length uc).ownBlock = some j → (W.alloc (.cells #[.int .i64 x.1] 3)).heap[j]? = some o → o.isCells = true := by
      intro j o hj ho
      rcases hr0.2 with ⟨he, _⟩ | ⟨g, cap, cur, he, _, hg, _⟩
      · rw [he] at hj; cases hj
      · rw [he] at hj
        obtain rfl : g = j := by simpa [Value.ownBlock] using hj
        rw [hg] at ho; cases ho; rfl
    have hgs := hgrow.size
    have has : (W.alloc (.cells #[.int .i64 x.1] 3)).heap.size = W.heap.size + 1 := by simp
    have hss : (w1.setCell ⟨w.heap.size, 0, none⟩ (.slice (some ⟨g', 0, none⟩) (pre.length + 1) cap')).heap.size = w1.heap.size := by simp
    refine ⟨(((KeepsOthers.alloc W _).trans (KeepsOthers.of_grownBy hgrow hcells)).trans (KeepsOthers.setCell _ _ _)).from _, ⟨by rw [hss]; omega, fun k hk hne => (Below.heap_setCell _ _ _ k hne).trans ((hgrow.block k (by omega) (fun e => by have := hge k e.symm; omega)).trans (Below.heap_alloc W _ k (by omega)))⟩, ⟨⟨_, hv1.set _, ?_, trivial⟩, ((hB.alloc hB.size (.cells #[.int .i64 x.1] 3)).grown hgrow (by omega) (fun k e => by have := hge k e; omega)).setCell (p := ⟨w.heap.size, 0, none⟩) (Nat.le_refl _) _, by rw [hss]; omega⟩⟩
    rw [ids_snoc, List.length_append]
    exact own_stays hown' (fun k hk => Below.heap_setCell _ _ _ _ (by have := own_ge hown' k hk; show k ≠ w.heap.size; omega))
  case done =>
    rintro D ys W hD rfl ⟨⟨u, hbx, hrow, _⟩, hB, hS⟩ hK
    have hc := hbx.cell
    have hwo := hbx.lt
    obtain ⟨ud, uc, rfl, _⟩ := own_shape hrow
    gi_wp2
    refine ⟨by simp, .inl ⟨_, _, rfl, run_takeDeferred hK, ?_⟩⟩
    exact ⟨_, results_tmp rfl _ _ _, _, rfl, own_base (ownsRow_putObj hrow _ hK rfl) (fun k hk => by have := own_ge (ownsRow_putObj hrow (.deferred none) hK rfl) k hk; omega), hB.trans (belowK_b (w := w) (Nat.le_refl _) W D _ _ (by omega) hK rfl rfl)⟩
  case stop =>
    rintro D c pre W _ _ h _
    exact h.elim

def endL (L : List Lz) (now : Int) : List Lz := if clockB now then lateL L now L.length else []
/-- Ended. -/
theorem ended_any (now : Int) (h : Tab w base n v L) (hb : base ≤ w.heap.size) (hl : L.length ≤ 1000) (hv : ∀ p ∈ L, rightB p = true) :
    Calls Try.prog 14 #[.pointer (some ⟨n, 0, none⟩), .int .i64 now] w fun e w' => ∃ v', e = .returned v' ∧ w'.ownsRow w.heap.size 3 1 v' (endL L now).length (ids (endL L now)) ∧ Below w.heap.size w w' := by
  unfold endL
  cases hc : clockB now with
  | false => exact (ended_no now w _ hc).mono fun _ _ ⟨he, hw⟩ => ⟨_, he, hw ▸ World.ownsRow_nil _ _ _ _, hw ▸ Below.refl _ _⟩
  | true => exact ended_yes now h hb hl hv hc
end Go.Proofs.Ytkgnooogppkieaa
