/- Split. Conditions: the bytes lie in memory, at most 1048576. -/
import Derived.Test.YtadgnemfjmiafaaWl
namespace Go.Proofs.Ytadgnemfjmiafaa
open Go.RowKit Go.Shelf
set_option linter.unusedVariables false
set_option linter.unusedSimpArgs false
attribute [local go_sem] Oper.semAt_some

theorem each_any (w : World) (a : Option Addr) (len cap : Nat) (p q : Option Addr) : Calls Try.prog 20 #[.slice a len cap, .pointer p, .pointer q] w fun e w' =>
    e = .returned (.func (.func 23) #[] #[.pointer (some ⟨w.heap.size, 0, none⟩), .pointer (some ⟨w.heap.size + 1, 0, none⟩), .pointer (some ⟨w.heap.size + 1 + 1, 0, none⟩)]) ∧
    w' = ((w.alloc (.cells #[.slice a len cap] 22)).alloc (.cells #[.pointer p] 42)).alloc (.cells #[.pointer q] 43) := by
  go_enter Try.func20, Try.ntmps20
  go_wp2
  go_ret
  exact ⟨rfl, rfl⟩
theorem rows_ne {w : World} {base base' e e' size size' n n' : Nat} {v v' : Value} {xs xs' : List Value} (h : w.ownsRow base e size v n xs) (h' : w.ownsRow base' e' size' v' n' xs') (hne : e ≠ e') (k : Nat) (hv : v.ownBlock = some k) : v'.ownBlock ≠ some k := by
  intro hv'
  rcases h.2 with ⟨rfl, _⟩ | ⟨g, cap, cur, rfl, _, hg, _⟩
  · cases hv
  rcases h'.2 with ⟨rfl, _⟩ | ⟨g', cap', cur', rfl, _, hg', _⟩
  · cases hv'
  obtain rfl : g = k := by simpa [Value.ownBlock] using hv
  obtain rfl : g' = g := by simpa [Value.ownBlock] using hv'
  rw [hg] at hg'
  injection hg' with hg'
  injection hg' with _ ht
  exact hne ht
theorem YFact.stays {n : Nat} {x : Yld} {A B : World} (h : YFact n x A) (hk : ∀ k, (yv x).ownBlock = some k → B.heap[k]? = A.heap[k]?) : YFact n x B := ⟨own_stays h.1 hk, h.2⟩
theorem YFact.old {n : Nat} {x : Yld} {X : Nat → Prop} {A B : World} (h : YFact n x A) (ho : Old X A B) (hx : ∀ k, n + 2 ≤ k → ¬ X k) : YFact n x B :=
  h.stays fun k hk => ho.same k (own_lt h.1 k hk) (hx k (own_ge h.1 k hk))
theorem row22 : (Try.prog.info? 22).map (fun i => (i.zero, i.size, i.bytes)) = some (some (.slice none 0 0), 1, 24) := by kernel_rfl
/-- what is amiss, where the end alone is nothing amiss. -/
def whyOf (k : Nat) : Nat := if k = 30 then 0 else k
/-- what Split hands back. -/
def Splits (w : World) (zs : List Int) (e : Ending) (w' : World) : Prop :=
  ∃ (v : Value) (xs : List Yld), e = .returned (.tuple #[v, .int .i64 ((splitAll zs).2.1 : Nat), .int .i64 (whyOf (splitAll zs).2.2 : Nat)]) ∧ xs.map Yld.zs = (splitAll zs).1 ∧
    w'.ownsRow w.heap.size 22 1 v xs.length (xs.map yv) ∧ (∀ x ∈ xs, w'.ownsRow w.heap.size 5 1 (yv x) x.zs.length (x.zs.map (Value.int .u8)) ∧ (∀ z ∈ x.zs, 0 ≤ z ∧ z < 256) ∧ x.zs.length ≤ 4096) ∧ Below w.heap.size w w'

set_option maxRecDepth 100000 in
set_option maxHeartbeats 4000000 in
theorem split_any (a : Option Addr) (len cap : Nat) (zs : List Int) (w : World) (hB : Bytes w a len zs) (hc : len ≤ cap) (hl : len ≤ 4194304) : Calls Try.prog 13 #[.slice a len cap] w (Splits w zs) := by
  obtain ⟨i0, hi, hz0, hz1, hz2⟩ := info_parts row22
  have HB := Lib.hid hB
  have hlz := hB.1
  clear hB
  refine (callsIn_wide (n := 5)).1 ?_
  refine callsIn_of_wp_marks Try.func13 rfl trivial ?_ rfl
  simp only [Try.ntmps13, List.size_toArray, List.length_cons, List.length_nil, Nat.reduceAdd, Nat.reduceSub, Array.replicate_succ, Array.replicate_zero, List.push_toArray, List.append_toArray, List.nil_append, List.cons_append]
  gi_wp2_with (first
    | (refine ⟨trivial, ?_⟩; gi_at_call 20; refine (callsIn_wide.2 (each_any _ _ _ _ _ _)).mono ?_; rintro e w1 ⟨rfl, rfl⟩)
    | (gi_at_call 20; refine (callsIn_wide.2 (each_any _ _ _ _ _ _)).mono ?_; rintro e w1 ⟨rfl, rfl⟩))
  have hB0 : Below w.heap.size w ((((((w.alloc (.cells #[.slice none 0 0] 31)).alloc (.cells #[.int .i64 0] 3)).alloc (.cells #[.int .i64 0] 23)).alloc (.cells #[.slice a len cap] 22)).alloc (.cells #[.pointer (some ⟨w.heap.size + 1, 0, none⟩)] 42)).alloc (.cells #[.pointer (some ⟨w.heap.size + 1 + 1, 0, none⟩)] 43)) :=
    ((((((Below.refl _ w).alloc (Nat.le_refl _) _).alloc (by simp) _).alloc (by simp; omega) _).alloc (by simp; omega) _).alloc (by simp; omega) _).alloc (by simp; omega) _
  have bo := ((((((Box.new w 31 #[.slice none 0 0]).alloc (.cells #[.int .i64 0] 3)).alloc (.cells #[.int .i64 0] 23)).alloc (.cells #[.slice a len cap] 22)).alloc (.cells #[.pointer (some ⟨w.heap.size + 1, 0, none⟩)] 42)).alloc (.cells #[.pointer (some ⟨w.heap.size + 1 + 1, 0, none⟩)] 43))
  have b1 := ((((Box.new (w.alloc (.cells #[.slice none 0 0] 31)) 3 #[.int .i64 0]).alloc (.cells #[.int .i64 0] 23)).alloc (.cells #[.slice a len cap] 22)).alloc (.cells #[.pointer (some ⟨w.heap.size + 1, 0, none⟩)] 42)).alloc (.cells #[.pointer (some ⟨w.heap.size + 1 + 1, 0, none⟩)] 43)
  have b2 := (((Box.new ((w.alloc (.cells #[.slice none 0 0] 31)).alloc (.cells #[.int .i64 0] 3)) 23 #[.int .i64 0]).alloc (.cells #[.slice a len cap] 22)).alloc (.cells #[.pointer (some ⟨w.heap.size + 1, 0, none⟩)] 42)).alloc (.cells #[.pointer (some ⟨w.heap.size + 1 + 1, 0, none⟩)] 43)
  have b3 := ((Box.new (((w.alloc (.cells #[.slice none 0 0] 31)).alloc (.cells #[.int .i64 0] 3)).alloc (.cells #[.int .i64 0] 23)) 22 #[.slice a len cap]).alloc (.cells #[.pointer (some ⟨w.heap.size + 1, 0, none⟩)] 42)).alloc (.cells #[.pointer (some ⟨w.heap.size + 1 + 1, 0, none⟩)] 43)
  have b4 := (Box.new ((((w.alloc (.cells #[.slice none 0 0] 31)).alloc (.cells #[.int .i64 0] 3)).alloc (.cells #[.int .i64 0] 23)).alloc (.cells #[.slice a len cap] 22)) 42 #[.pointer (some ⟨w.heap.size + 1, 0, none⟩)]).alloc (.cells #[.pointer (some ⟨w.heap.size + 1 + 1, 0, none⟩)] 43)
  have b5 := Box.new (((((w.alloc (.cells #[.slice none 0 0] 31)).alloc (.cells #[.int .i64 0] 3)).alloc (.cells #[.int .i64 0] 23)).alloc (.cells #[.slice a len cap] 22)).alloc (.cells #[.pointer (some ⟨w.heap.size + 1, 0, none⟩)] 42)) 43 #[.pointer (some ⟨w.heap.size + 1 + 1, 0, none⟩)]
  have hsz : ((((((w.alloc (.cells #[.slice none 0 0] 31)).alloc (.cells #[.int .i64 0] 3)).alloc (.cells #[.int .i64 0] 23)).alloc (.cells #[.slice a len cap] 22)).alloc (.cells #[.pointer (some ⟨w.heap.size + 1, 0, none⟩)] 42)).alloc (.cells #[.pointer (some ⟨w.heap.size + 1 + 1, 0, none⟩)] 43)).heap.size = w.heap.size + 6 := by simp
  simp only [World.size_alloc] at b1 b2 b3 b4 b5
  have hin := Lib.hid HB.out.in0
  have HB0 := Lib.hid (HB.out.below hB0)
  generalize (((((w.alloc (.cells #[.slice none 0 0] 31)).alloc (.cells #[.int .i64 0] 3)).alloc (.cells #[.int .i64 0] 23)).alloc (.cells #[.slice a len cap] 22)).alloc (.cells #[.pointer (some ⟨w.heap.size + 1, 0, none⟩)] 42)).alloc (.cells #[.pointer (some ⟨w.heap.size + 1 + 1, 0, none⟩)] 43) = W0 at hB0 bo b1 b2 b3 b4 b5 hsz HB0 ⊢
  obtain ⟨m, hm⟩ : ∃ m, m = w.heap.size := ⟨_, rfl⟩
  simp only [← hm, Nat.add_assoc, Nat.reduceAdd] at hB0 bo b1 b2 b3 b4 b5 hsz hin ⊢
  have HM := Lib.hid hm
  clear hm
  have hh := each_hands 4 (by omega) m a len cap zs W0 hsz HB0.out hc hin.out _ _ b1 b2 b3 b4 b5
  refine range_cells (F := Fence.wide) rfl (by omega) (gf := 23) (lb := #[.pointer (some ⟨m + 3, 0, none⟩), .pointer (some ⟨m + 4, 0, none⟩), .pointer (some ⟨m + 5, 0, none⟩)]) rfl trivial (enters_of Try.func23 (by kernel_rfl) rfl)
    (fun _ => rfl) ?hX (by omega) hh ?hFact ?hS
    (fun pre W => (∃ u, Box W m 31 #[u] ∧ W.ownsRow (m + 8) 22 1 u pre.length (pre.map yv)) ∧ (∀ x ∈ pre, YFact (m + 6) x W) ∧ Below m w W ∧ m + 6 ≤ W.heap.size)
    ?hI ?h0
    (fun x => { tmps := #[.slice a len cap, undef, .slice none 0 0, .int .i64 0, .int .i64 0, .pointer (some ⟨m, 0, none⟩), .pointer (some ⟨m + 1, 0, none⟩), .pointer (some ⟨m + 2, 0, none⟩), .slice x.ad x.zs.length x.c, .slice a len cap,
        .func (.func 23) #[] #[.pointer (some ⟨m + 3, 0, none⟩), .pointer (some ⟨m + 4, 0, none⟩), .pointer (some ⟨m + 5, 0, none⟩)], .slice x.ad x.zs.length x.c, undef, undef, undef, undef, undef, undef, undef, undef, undef], defers := [] })
    ?assign ?body ?done
  case hX => rintro k (h | h | h) <;> omega
  case hFact => exact fun pre x A B h ho => h.old ho (fun k hk => by omega)
  case hS => exact fun xs A B h ho => ⟨h.1, h.2.1.old ho (by omega), h.2.2.old ho (by omega)⟩
  case hI =>
    rintro s A B ⟨⟨u, hb, hr⟩, hf, hbl, hs⟩ ho
    exact ⟨⟨u, hb.old ho (by omega), own_stays hr (fun k hk => ho.same k (own_lt hr k hk) (by have := own_ge hr k hk; omega))⟩, fun x hx => (hf x hx).old ho (fun k hk => by omega), ho.below hbl (by omega) (fun k hk => by omega), Nat.le_trans hs ho.size⟩
  case h0 => exact ⟨⟨_, bo, World.ownsRow_nil _ _ _ _⟩, by simp, hB0, by omega⟩
  case assign =>
    intro l x W K hK
    unfold yv
    gi_wp2
    exact hK
  case body =>
    rintro l pre x W ⟨⟨u, hbx, hrow⟩, hf, hbl, hs6⟩ hfx hlen hs8
    have hfr := hbx.frozen 0
    obtain ⟨ud, uc, rfl, _⟩ : ∃ ad c, u = .slice ad pre.length c ∧ pre.length ≤ c := by
      rcases hrow.2 with ⟨rfl, h⟩ | ⟨g, cap, cur, rfl, _, _, hc, _⟩
      · exact ⟨none, 0, by rw [h], by omega⟩
      · exact ⟨_, _, rfl, hc⟩
    have hc0 : W.cell? ⟨m, 0, none⟩ = some (.slice ud pre.length uc) := hbx.cell 0
    have HBX := Lib.hid hbx
    have HROW := Lib.hid hrow
    have HF := Lib.hid hf
    have HFX := Lib.hid hfx
    have hml : pre.length ≤ 4194304 := by omega
    clear hbx hrow hf hfx hh
    gi_wp2_with (gi_at_builtin; refine wpListIn_append_own _ rfl _ _ 31 rfl (m + 8) 22 i0 _ 1 24 Try.underlying31 hi hz0 hz1 hz2 rfl (by decide) _ _ _ rfl (HROW.out.alloc _) ⟨W.heap.size, 0, none⟩ 1 1 [yv x] rfl rfl (cell_one_new _ _ _) (by simp [Value.oneCell', yv]) (by unfold maxLen; omega) (by omega) (by simp; omega) ?_; intro v' w1 hown' hgrow _; obtain ⟨g', cap', rfl⟩ := ownsRow_succ hown'; have hge := Lib.hid (own_ge (HROW.out.alloc (.cells #[yv x] 22))); have bx1 : Box w1 m 31 #[.slice ud pre.length uc] := (HBX.out.alloc _).grown hgrow (fun e => by have := hge.out m e.symm; omega); have hc1 : w1.cell? ⟨m, 0, none⟩ = some (.slice ud pre.length uc) := bx1.cell 0; have hf1 := bx1.frozen 0; have HBX1 := Lib.hid bx1; clear bx1)
    have hgs := hgrow.size
    have has : (W.alloc (.cells #[yv x] 22)).heap.size = W.heap.size + 1 := by simp
    have oA : Old (fun k => k = m ∨ m + 8 ≤ k) W w1 := (Old.alloc _ _ _).trans (Old.grown hgrow (fun r e => .inr (hge.out r e)))
    have oB : Old (fun k => k = m) w1 (w1.setCell ⟨m, 0, none⟩ (.slice (some ⟨g', 0, none⟩) (pre.length + 1) cap')) := Old.setCell rfl
    have hyf : ∀ y ∈ pre ++ [x], YFact (m + 6) y w1 := by
      intro y hy
      have hy0 : YFact (m + 6) y W := by
        rcases List.mem_append.1 hy with h | h
        · exact HF.out y h
        · obtain rfl : y = x := by simpa using h
          have := HFX.out; rwa [hsz] at this
      refine hy0.stays fun k hk => (hgrow.block k (Nat.lt_trans (own_lt hy0.1 k hk) (by simp)) (fun e => ?_)).trans (Below.heap_alloc W _ k (own_lt hy0.1 k hk))
      exact rows_ne hy0.1 HROW.out (by decide) k hk e.symm
    have HYF := Lib.hid hyf
    refine ⟨(oA.trans (oB.mono fun k _ h => .inl h)).mono (fun k _ h => h.imp id fun h => by omega), ⟨⟨_, HBX1.out.set 0 _, ?_⟩, fun y hy => (HYF.out y hy).old oB (fun k hk => by omega), ((oA.trans (oB.mono fun k _ h => .inl h)).below hbl (by omega) (fun k hk => by omega)), by have := oB.size; have := oA.size; omega⟩⟩
    rw [List.length_append, List.map_append]
    exact own_stays hown' (fun k hk => Below.heap_setCell _ _ _ _ (by have := own_ge hown' k hk; show k ≠ m; omega))
  case done =>
    rintro xs W ⟨hxs, s1, s2⟩ ⟨⟨u, hbx, hrow⟩, hf, hbl, hs6⟩ hD
    obtain ⟨ud, uc, rfl, _⟩ : ∃ ad c, u = .slice ad xs.length c ∧ xs.length ≤ c := by
      rcases hrow.2 with ⟨rfl, h⟩ | ⟨g, cap, cur, rfl, _, _, hc, _⟩
      · exact ⟨none, 0, by rw [h], by omega⟩
      · exact ⟨_, _, rfl, hc⟩
    have k0 : W.cell? ⟨m, 0, none⟩ = some (.slice ud xs.length uc) := hbx.cell 0
    have k1 : W.cell? ⟨m + 1, 0, none⟩ = some (.int .i64 ((splitAll zs).2.1 : Nat)) := s1.cell 0
    have k2 : W.cell? ⟨m + 2, 0, none⟩ = some (.int .i64 ((splitAll zs).2.2 : Nat)) := s2.cell 0
    have f2 := s2.frozen 0
    have key : ∀ (F : World) (k : Int), Old (fun k => k = m + 2 ∨ k = m + 6) W F → k = (whyOf (splitAll zs).2.2 : Nat) → Splits w zs (.returned (.tuple #[.slice ud xs.length uc, .int .i64 ((splitAll zs).2.1 : Nat), .int .i64 k])) F := by
      rintro F k ho rfl
      refine ⟨_, xs, rfl, hxs, ?_, fun x hx => ?_, ?_⟩
      · rw [← HM.out]
        exact own_stays (own_base hrow (fun k hk => by have := own_ge hrow k hk; omega)) (fun k hk => ho.same k (own_lt hrow k hk) (by have := own_ge hrow k hk; omega))
      · rw [← HM.out]
        have h := (hf x hx).old ho (fun k hk => by omega)
        exact ⟨own_base h.1 (fun k hk => by have := own_ge h.1 k hk; omega), h.2⟩
      · rw [← HM.out]
        exact ho.below hbl (by omega) (fun k hk => by omega)
    have KEY := Lib.hid key
    have HD : Hid (W.heap[W0.heap.size]? = some (.deferred (some []))) := hD
    clear hbx hrow hf hxs s1 s2 hD hh b1 b2 b3 b4 b5 bo HB0 key
    have fin : ∀ n : Nat, (((W.setCell ⟨m + 2, 0, none⟩ (.int .i64 0)).drewN n).heap[W0.heap.size]? = some (.deferred (some []))) := fun n => (Below.heap_setCell W ⟨m + 2, 0, none⟩ _ _ (by show W0.heap.size ≠ m + 2; omega)).trans HD.out
    have FIN := Lib.hid fin
    clear fin
    by_cases hw : (splitAll zs).2.2 = 30
    · have e1 : (((splitAll zs).2.2 : Nat) : Int) = 30 := by omega
      have e2 := Lib.hid (show (0 : Int) = (whyOf (splitAll zs).2.2 : Nat) by rw [whyOf, if_pos hw]; rfl)
      rw [e1] at k2
      clear hw e1
      gi_wp2
      gi_quiet (fail)
      gi_wp2
      refine ⟨by simp, .inl ⟨_, _, rfl, run_takeDeferred (FIN.out _), ?_⟩⟩
      exact ⟨.tuple #[.slice ud xs.length uc, .int .i64 ((splitAll zs).2.1 : Nat), .int .i64 0], by simp [results, Try.results13, go_sem], KEY.out _ _ (((Old.setCell (.inl rfl)).trans (Old.drewN _ _ _)).trans (Old.putObj (.inr hsz))) e2.out⟩
    · have e1 : ((((splitAll zs).2.2 : Nat) : Int) == 30) = false := by simp; omega
      have e2 := Lib.hid (show (((splitAll zs).2.2 : Nat) : Int) = (whyOf (splitAll zs).2.2 : Nat) by rw [whyOf, if_neg hw])
      clear hw
      gi_wp2
      gi_quiet (fail)
      gi_wp2
      refine ⟨by simp, .inl ⟨_, _, rfl, run_takeDeferred (show (W.drewN _).heap[W0.heap.size]? = _ from HD.out), ?_⟩⟩
      exact ⟨.tuple #[.slice ud xs.length uc, .int .i64 ((splitAll zs).2.1 : Nat), .int .i64 ((splitAll zs).2.2 : Nat)], by simp [results, Try.results13, go_sem], KEY.out _ _ ((Old.drewN _ _ _).trans (Old.putObj (.inr hsz))) e2.out⟩
end Go.Proofs.Ytadgnemfjmiafaa
