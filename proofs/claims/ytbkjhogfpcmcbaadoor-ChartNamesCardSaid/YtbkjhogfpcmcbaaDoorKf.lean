/- chart: mounts collected from the iterator. Conditions: as in Ke. -/
import Derived.Test.YtbkjhogfpcmcbaaDoorKe
namespace Go.Proofs.YtbkjhogfpcmcbaaDoor
open Go Go.RowKit Go.Shelf Zn
attribute [local go_sem] Oper.semAt_some
set_option linter.unusedVariables false
set_option linter.unusedSimpArgs false
variable {w w' : World}
def mcells (l : List Mt) : List Value := l.flatMap mc
theorem mcells_snoc (l : List Mt) (p : Mt) : mcells (l ++ [p]) = mcells l ++ mc p := by simp [mcells]
theorem mcells_drop (l : List Mt) (k : Nat) : (mcells l).drop (k * 2) = mcells (l.drop k) := by
  induction k generalizing l with
  | zero => simp
  | succ k ih =>
    cases l with
    | nil => simp [mcells]
    | cons p l =>
      have : (k + 1) * 2 = k * 2 + 1 + 1 := by omega
      rw [this]
      have h2 : mcells (p :: l) = .string p.p :: .int .i64 p.v :: mcells l := rfl
      rw [h2, List.drop_succ_cons, List.drop_succ_cons, ih]
      rfl
theorem mcells_get (l : List Mt) (k : Nat) (p : Mt) (h : l[k]? = some p) : ∀ j, j < 2 → (mcells l)[k * 2 + j]? = (mc p)[j]? := by
  have hd : l.drop k = p :: l.drop (k + 1) := by
    have hlt := (List.getElem?_eq_some_iff.1 h).1
    rw [List.drop_eq_getElem_cons hlt]
    congr 1
    rw [List.getElem?_eq_getElem hlt] at h
    exact Option.some.inj h
  have hc : (mcells l).drop (k * 2) = mc p ++ mcells (l.drop (k + 1)) := by rw [mcells_drop, hd]; rfl
  intro j hj
  rw [← List.getElem?_drop, hc, List.getElem?_append_left (by simpa [mc] using hj)]
/-- a row of the call's own is mounts in memory. -/
theorem own_MsAt {base n c : Nat} {a : Option Addr} {ms : List Mt} (h : w.ownsRow base 53 2 (.slice a n c) ms.length (mcells ms)) (hn : n = ms.length) : MsAt w a n ms := by
  refine ⟨by rw [List.length_map, hn], ?_⟩
  rcases h.2 with ⟨_, he⟩ | ⟨g, cap, cur, e, hb, hg, _⟩
  · exact .inl (hn.trans he)
  · right
    have hc := h.cells (g := g) (by rw [e]; rfl)
    have hlt : g < w.heap.size := own_lt h g (by rw [e]; rfl)
    obtain ⟨rfl, _, _⟩ : a = some ⟨g, 0, none⟩ ∧ n = ms.length ∧ c = cap := by simpa using e
    refine ⟨g, 0, rfl, hlt, fun i r hr j u hu => ?_⟩
    rw [List.getElem?_map] at hr
    cases hp : ms[i]? with
    | none => rw [hp] at hr; cases hr
    | some p =>
      rw [hp] at hr
      obtain rfl : mc p = r := by simpa using hr
      have hj : j < 2 := by have := (List.getElem?_eq_some_iff.1 hu).1; simpa [mc] using this
      have := hc (i * 2 + j) u (by rw [mcells_get ms i p hp j hj]; exact hu)
      rw [Addr.add_lit, Nat.zero_add] at this
      rw [Nat.zero_add]
      exact this
theorem cell_two_new (w : World) (x y : Value) (t : TypeId) : ∀ j u, [x, y][j]? = some u → (w.alloc (.cells #[x, y] t)).cell? ((⟨w.heap.size, 0, none⟩ : Addr).add j) = some u := by
  intro j u hj
  rw [Addr.add_lit, Nat.zero_add]
  have := (Box.new w t #[x, y]).cell j
  rw [this, ← hj]
  simp
theorem row53 : (Tryd.prog.info? 53).map (fun i => (i.zero, i.size, i.bytes)) = some (some (.agg #[.string ⟨#[]⟩, .int .i64 0]), 2, 24) := by kernel_rfl
def Seq (w : World) (B2 B3 : Nat) (ms : List Mt) (q : ByteArray) (e : Ending) (w' : World) : Prop :=
  ∃ a c, e = .returned (.slice a (underL ms q ms.length).length c) ∧ MsAt w' a (underL ms q ms.length).length (underL ms q ms.length) ∧ Below w.heap.size w w'
set_option maxRecDepth 100000 in
set_option maxHeartbeats 4000000 in
theorem appseq_any (w : World) (n0 B2 B3 : Nat) (a : Option Addr) (len cap : Nat) (ms : List Mt) (q : ByteArray) (hl : len ≤ 1000000) (hq : q.size ≤ 2000000) (hs : ∀ x ∈ ms, x.p.size ≤ 2000000) (hn0 : n0 = w.heap.size) (hT : ∀ O, n0 ≤ O → Holds n0 O B2 B3 a len cap ms q w) :
    Calls Tryd.prog 68 #[.slice none 0 0, .func (.func 47) #[] #[.pointer (some ⟨B2, 0, none⟩), .pointer (some ⟨B3, 0, none⟩)]] w (Seq w B2 B3 ms q) := by
  subst hn0
  have HLEN := Lib.hid (hT w.heap.size (Nat.le_refl _)).at_.len
  have HT := Lib.hid (hT w.heap.size (Nat.le_refl _))
  have HS := Lib.hid hs
  clear hT hs
  refine (callsIn_wide (n := 5)).1 ?_
  refine callsIn_of_wp_marks Tryd.func68 rfl trivial ?_ rfl
  simp only [Tryd.ntmps68, List.size_toArray, List.length_cons, List.length_nil, Nat.reduceAdd, Nat.reduceSub, Array.replicate_succ, Array.replicate_zero, List.push_toArray, List.append_toArray, List.nil_append, List.cons_append]
  gi_wp2
  have hB0 : Below w.heap.size w (w.alloc (.cells #[.slice none 0 0] 22)) := (Below.refl _ w).alloc (Nat.le_refl _) _
  have hO := Boxed.new w 22 (.slice none 0 0)
  have hsz : (w.alloc (.cells #[.slice none 0 0] 22)).heap.size = w.heap.size + 1 := by simp
  have HT0 := HT.out.keep (Keep.below (Keep.refl _ _ w) (Nat.le_refl _) hB0)
  generalize w.alloc (.cells #[.slice none 0 0] 22) = W0 at hB0 hO hsz HT0 ⊢
  obtain ⟨i0, hi, hz0, hz1, hz2⟩ := info_parts row53
  refine wpIn_rangeFunc_ownH (F := Fence.wide) rfl (by omega) (gf := 47) (lb := #[.pointer (some ⟨B2, 0, none⟩), .pointer (some ⟨B3, 0, none⟩)]) rfl trivial (enters_of Tryd.func47 (by kernel_rfl) rfl)
    (iter_stops 4 (by omega) B2 B3 w.heap.size w.heap.size a len cap ms q hl hq HS.out W0 (by omega) HT0)
    (fun a b => Keep.trans a b) (fun W l o o' hle hl hc hw => ⟨by simp [World.putObj], fun i hi hne => World.putObj_heap_other (by omega)⟩) (Below.refl _ _) (fun _ => rfl)
    (fun pre W => (∃ u, Boxed W w.heap.size 22 u ∧ W.ownsRow W0.heap.size 53 2 u pre.length (mcells pre) ∧ True) ∧ (Below w.heap.size w W ∧ W0.heap.size ≤ W.heap.size))
    (fun _ _ _ => False)
    (OwnFrom.and (Own.from (holdsRow_own W0.heap.size w.heap.size 22 53 2 (fun pre => pre.length) (fun pre => mcells pre) (fun _ _ => True)) _) (OwnFrom.and (ownFrom_below (Nat.le_refl _) (by omega)) (fun s A B row hs hg hr => Nat.le_trans hs hg.size)))
    (fun _ _ _ _ _ hs _ _ => hs)
    ⟨⟨_, hO, World.ownsRow_nil _ _ _ _, trivial⟩, hB0, Nat.le_refl _⟩
    (fun x a' W => ∃ Bx, W0.heap.size ≤ Bx ∧ Box W Bx 53 #[.string x.p, .int .i64 x.v] ∧ a' = { tmps := #[.slice none 0 0, .func (.func 47) #[] #[.pointer (some ⟨B2, 0, none⟩), .pointer (some ⟨B3, 0, none⟩)], .pointer (some ⟨w.heap.size, 0, none⟩), undef, .slice none 0 0, .pointer (some ⟨Bx, 0, none⟩), .func (.func 47) #[] #[.pointer (some ⟨B2, 0, none⟩), .pointer (some ⟨B3, 0, none⟩)], .agg #[.string x.p, .int .i64 x.v], undef, undef, undef, undef, undef], defers := [] })
    (fun x a' _ A B row ⟨Bx, h1, h2, h3⟩ hg hr => ⟨Bx, h1, (hg.block Bx h2.lt (fun e => by
      obtain ⟨o, ho, hc⟩ := (hr _ e.symm).2
      rw [show A.heap[Bx]? = _ from h2] at ho; cases ho; cases hc)).trans h2, h3⟩)
    ?assign ?body ?done ?stop
  case assign =>
    rintro l pre x W K ⟨⟨u, hbx, hrow, _⟩, hB, hS⟩ hK
    unfold mv
    gi_wp2
    exact hK _ _ ((KeepsOthers.alloc _ _).from _) ((Keep.refl _ _ W).alloc (by omega) _) ⟨⟨u, hbx.alloc _, hrow.alloc _, trivial⟩, hB.alloc hB.size _, Nat.le_trans hS (by simp)⟩ ⟨W.heap.size, hS, Box.new W 53 _, rfl⟩
  case body =>
    rintro l pre x a' W hll ⟨r, hr⟩ ⟨⟨u, hbx, hrow, _⟩, hB, hS⟩ ⟨Bx, hBx, bX, rfl⟩ hlen
    have hc := hbx.cell
    have hf := hbx.frozen
    have xc : W.cell? ⟨Bx, 0, none⟩ = some (.string x.p) := bX.cell 0
    have xd : W.cell? ⟨Bx, 1, none⟩ = some (.int .i64 x.v) := bX.cell 1
    have hwo := hbx.lt
    have hbl := bX.lt
    have hml := HLEN.out
    obtain ⟨ud, uc, rfl, _⟩ := own_shape hrow
    gi_wp2_with (gi_at_builtin; refine wpListIn_append_own _ rfl _ _ 22 rfl W0.heap.size 53 i0 _ 2 24 Tryd.underlying22 hi hz0 hz1 hz2 rfl (by decide) _ _ _ rfl (hrow.alloc _) ⟨W.heap.size, 0, none⟩ 1 1 [.string x.p, .int .i64 x.v] rfl rfl (cell_two_new _ _ _ _) (by simp [Value.oneCell']) (by unfold maxLen; omega) (by omega) (by simp; omega) ?_; intro v' w1 hown' hgrow hnil; obtain ⟨g', cap', rfl⟩ := ownsRow_succ hown'; have hv0 : Boxed (W.alloc (.cells #[.string x.p, .int .i64 x.v] 53)) w.heap.size 22 (.slice ud pre.length uc) := hbx.alloc _; have hr0 : (W.alloc (.cells #[.string x.p, .int .i64 x.v] 53)).ownsRow W0.heap.size 53 2 (.slice ud pre.length uc) pre.length (mcells pre) := hrow.alloc _; have hv1 := hv0.kept hgrow (hv0.not_row (by decide) hr0); have hc1 := hv1.cell; have hf1 := hv1.frozen; have hw1 := hv1.lt)
    have hge := own_ge hr0
    have hcells : ∀ (j : Nat) (o : Obj), (Value.slice ud pre.length uc).ownBlock = some j → (W.alloc (.cells #[.string x.p, .int .i64 x.v] 53)).heap[j]? = some o → o.isCells = true := by
      intro j o hj ho
      rcases hr0.2 with ⟨he, _⟩ | ⟨g, cap, cur, he, _, hg, _⟩
      · rw [he] at hj; cases hj
      · rw [he] at hj
        obtain rfl : g = j := by simpa [Value.ownBlock] using hj
        rw [hg] at ho; cases ho; rfl
    have hgs := hgrow.size
    have has : (W.alloc (.cells #[.string x.p, .int .i64 x.v] 53)).heap.size = W.heap.size + 1 := by simp
    have hss : (w1.setCell ⟨w.heap.size, 0, none⟩ (.slice (some ⟨g', 0, none⟩) (pre.length + 1) cap')).heap.size = w1.heap.size := by simp
    refine ⟨(((KeepsOthers.alloc W _).trans (KeepsOthers.of_grownBy hgrow hcells)).trans (KeepsOthers.setCell _ _ _)).from _, ⟨by rw [hss]; omega, fun k hk hne => (Below.heap_setCell _ _ _ k hne).trans ((hgrow.block k (by omega) (fun e => by have := hge k e.symm; omega)).trans (Below.heap_alloc W _ k (by omega)))⟩, ⟨⟨_, hv1.set _, ?_, trivial⟩, ((hB.alloc hB.size (.cells #[.string x.p, .int .i64 x.v] 53)).grown hgrow (by omega) (fun k e => by have := hge k e; omega)).setCell (p := ⟨w.heap.size, 0, none⟩) (Nat.le_refl _) _, by rw [hss]; omega⟩⟩
    rw [mcells_snoc, List.length_append]
    exact own_stays hown' (fun k hk => Below.heap_setCell _ _ _ _ (by have := own_ge hown' k hk; show k ≠ w.heap.size; omega))
  case done =>
    rintro D ys W hD rfl ⟨⟨u, hbx, hrow, _⟩, hB, hS⟩ hK
    have hc := hbx.cell
    have hwo := hbx.lt
    obtain ⟨ud, uc, rfl, _⟩ := own_shape hrow
    gi_wp2
    refine ⟨by simp, .inl ⟨_, _, rfl, run_takeDeferred hK, ?_⟩⟩
    exact ⟨_, results_tmp rfl _ _ _, ud, uc, rfl, own_MsAt (ownsRow_putObj hrow _ hK rfl) rfl, hB.trans (belowK_b (w := w) (Nat.le_refl _) W D _ _ (by omega) hK rfl rfl)⟩
  case stop =>
    rintro D c pre W _ _ h _
    exact h.elim
theorem collect_any (w : World) (B2 B3 : Nat) (a : Option Addr) (len cap : Nat) (ms : List Mt) (q : ByteArray) (hl : len ≤ 1000000) (hq : q.size ≤ 2000000) (hs : ∀ x ∈ ms, x.p.size ≤ 2000000) (hT : ∀ O, w.heap.size ≤ O → Holds w.heap.size O B2 B3 a len cap ms q w) :
    Calls Tryd.prog 46 #[.func (.func 47) #[] #[.pointer (some ⟨B2, 0, none⟩), .pointer (some ⟨B3, 0, none⟩)]] w (Seq w B2 B3 ms q) := by
  have C := Lib.hid (appseq_any w w.heap.size B2 B3 a len cap ms q hl hq hs rfl hT)
  clear hs hT
  go_enter Tryd.func46, Tryd.ntmps46
  go_wp2_with fail
  refine C.out.mono ?_
  rintro e w1 ⟨a1, c1, rfl, h1, b1⟩
  have HB := Lib.hid b1
  have H1 := Lib.hid h1
  clear b1 h1 C
  go_wp2_with fail
  go_ret
  exact ⟨_, _, rfl, H1.out, HB.out⟩
end Go.Proofs.YtbkjhogfpcmcbaaDoor
