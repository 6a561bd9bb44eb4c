/- The document's net: At, Apart, Send. Conditions: its rows are the call's own. -/
import Derived.Test.YtejoggbebmmlkaaWp
namespace Go.Proofs.Ytejoggbebmmlkaa
open Go.RowKit
set_option linter.unusedVariables false
set_option linter.unusedSimpArgs false
variable {w w' : World} {base : Nat}

theorem own_src {e size n c : Nat} {ad : Option Addr} {xs : List Value} (h : w.ownsRow base e size (.slice ad n c) n xs) (h1 : ∀ u ∈ xs, u.oneCell' = true) : Src w ad n size xs := by
  refine ⟨h.1, h1, ?_⟩
  have hC := fun (g : Nat) (hg : (Value.slice ad n c).ownBlock = some g) => h.cells hg
  rcases h.2 with ⟨_, h0⟩ | ⟨g, cap, cur, he, _⟩
  · exact .inl h0
  · obtain ⟨rfl, rfl⟩ : ad = some ⟨g, 0, none⟩ ∧ c = cap := by simpa using he
    exact .inr ⟨_, rfl, hC g rfl⟩
def prc (q : Int × Int) : List Value := [.int .i64 q.1, .int .i64 q.2]
def prs (A : List (Int × Int)) : List Value := A.flatMap prc
theorem prs_len (A : List (Int × Int)) : (prs A).length = A.length * 2 := by
  induction A with
  | nil => rfl
  | cons p l ih => simp only [prs, List.flatMap_cons, List.length_append, List.length_cons] at ih ⊢; rw [ih]; simp [prc]; omega
theorem prs_one (A : List (Int × Int)) : ∀ u ∈ prs A, u.oneCell' = true := by
  intro u hu
  obtain ⟨p, _, hp⟩ := List.mem_flatMap.1 hu
  simp only [prc, List.mem_cons, List.not_mem_nil, or_false] at hp
  rcases hp with rfl | rfl <;> rfl
theorem prs_snoc (A : List (Int × Int)) (q : Int × Int) : prs (A ++ [q]) = prs A ++ prc q := by simp [prs]
theorem prs_get (l : List (Int × Int)) (k : Nat) (p : Int × Int) (h : l[k]? = some p) : (prs l)[k * 2]? = some (.int .i64 p.1) ∧ (prs l)[k * 2 + 1]? = some (.int .i64 p.2) := by
  induction k generalizing l with
  | zero =>
    cases l with
    | nil => cases h
    | cons x l => obtain rfl : x = p := by simpa using h
                  exact ⟨rfl, rfl⟩
  | succ k ih =>
    cases l with
    | nil => cases h
    | cons x l =>
      have := ih l (by simpa using h)
      have e : (k + 1) * 2 = k * 2 + 1 + 1 := by omega
      rw [e]
      exact ⟨this.1, this.2⟩
theorem pr_cells {vv : Value} {l : List (Int × Int)} (h : w.ownsRow base 68 2 vv l.length (prs l)) (k : Nat) (p : Int × Int) (hk : l[k]? = some p) :
    ∃ g cap, vv = .slice (some ⟨g, 0, none⟩) l.length cap ∧ g < w.heap.size ∧ w.cell? ⟨g, k * 2, none⟩ = some (.int .i64 p.1) ∧ w.cell? ⟨g, k * 2 + 1, none⟩ = some (.int .i64 p.2) := by
  obtain ⟨h0, h1⟩ := prs_get l k p hk
  have hlt := (List.getElem?_eq_some_iff.1 hk).1
  rcases h.2 with ⟨_, he⟩ | ⟨g, cap, cur, rfl, hb, hg, _⟩
  · omega
  · have hc := h.cells (g := g) rfl
    have hb : g < w.heap.size := own_lt h g rfl
    refine ⟨g, cap, rfl, hb, ?_, ?_⟩
    · have := hc _ _ h0; rwa [Addr.add_lit, Nat.zero_add] at this
    · have := hc _ _ h1; rwa [Addr.add_lit, Nat.zero_add] at this

/-- the document's net: its two rows. -/
structure RNet (w : World) (base : Nat) (l a : Value) (ps : List Pk) (A : List (Int × Int)) : Prop where
  row : w.ownsRow base 27 3 l ps.length (cellsOf ps)
  prs : w.ownsRow base 68 2 a A.length (prs A)
variable {l a : Value} {ps : List Pk} {A : List (Int × Int)}
theorem RNet.stays (h : RNet w base l a ps A) (hk : ∀ k, k < w.heap.size → (l.ownBlock = some k ∨ a.ownBlock = some k) → w'.heap[k]? = w.heap[k]?) : RNet w' base l a ps A :=
  ⟨own_stays h.row (fun k hv => hk k (own_lt h.row k hv) (.inl hv)), own_stays h.prs (fun k hv => hk k (own_lt h.prs k hv) (.inr hv))⟩
theorem RNet.below {B : Nat} (h : RNet w base l a ps A) (hb : Below B w w') (hB : w.heap.size ≤ B) : RNet w' base l a ps A := h.stays fun k hk _ => hb.block k (by omega)
theorem RNet.alloc (h : RNet w base l a ps A) (o : Obj) : RNet (w.alloc o) base l a ps A := h.stays fun k hk _ => Below.heap_alloc w o k hk
theorem RNet.drew (h : RNet w base l a ps A) : RNet w.drew base l a ps A := h.stays fun _ _ _ => rfl
def rv (l a : Value) : Value := .agg #[l, a]

theorem rat_all (k : Int) (h : RNet w base l a ps A) (hl : ps.length ≤ 3000) :
    Calls Try.prog 29 #[rv l a, .int .i64 k] w fun e w' => e = .returned (.tuple #[pv ((getI ps k).getD zp), .bool (getI ps k).isSome]) ∧ Below w.heap.size w w' := by
  obtain ⟨ad, c, rfl, _⟩ := own_shape h.row
  obtain ⟨aa, ca, rfl, _⟩ := own_shape h.prs
  unfold rv
  cases hg : getI ps k with
  | none =>
    have hk := getI_none hg
    have e0 : pv (none.getD zp) = .agg #[.int .i64 0, .int .i64 0, .string ⟨#[]⟩] := rfl
    rw [e0]
    clear hg h e0
    by_cases hneg : k < 0
    · clear hk
      go_enter Try.func29, Try.ntmps29
      go_wp2
      have hX := Box.new (w.alloc (.cells #[.slice ad ps.length c, .slice aa A.length ca] 45)) 27 #[.int .i64 0, .int .i64 0, .string ⟨#[]⟩]
      simp only [World.size_alloc] at hX
      exact ret_box Try.results29 rfl rfl rfl hX ⟨rfl, ((Below.refl _ _).alloc (Nat.le_refl _) _).alloc (by simp) _⟩
    · have hge : (ps.length : Int) ≤ k := by omega
      clear hk
      go_enter Try.func29, Try.ntmps29
      go_wp2
      have hX := Box.new (w.alloc (.cells #[.slice ad ps.length c, .slice aa A.length ca] 45)) 27 #[.int .i64 0, .int .i64 0, .string ⟨#[]⟩]
      simp only [World.size_alloc] at hX
      exact ret_box Try.results29 rfl rfl rfl hX ⟨rfl, ((Below.refl _ _).alloc (Nat.le_refl _) _).alloc (by simp) _⟩
  | some p =>
    obtain ⟨j, rfl, hp⟩ := getI_some hg
    obtain ⟨g, cap, he, hgl, d0, d1, d2⟩ := own_cells h.row j p hp
    obtain ⟨rfl, rfl⟩ : ad = some ⟨g, 0, none⟩ ∧ c = cap := by simpa using he
    have hlt := (List.getElem?_eq_some_iff.1 hp).1
    have h1 : ¬ (j : Int) < 0 := by omega
    have h2 : ¬ (ps.length : Int) ≤ (j : Int) := by omega
    have e0 : pv ((some p).getD zp) = .agg #[.int .i64 p.1, .int .i64 p.2.1, .string p.2.2] := rfl
    rw [e0]
    clear hg h he hp e0
    go_enter Try.func29, Try.ntmps29
    go_wp2
    have hX := Box.new (w.alloc (.cells #[.slice (some ⟨g, 0, none⟩) ps.length c, .slice aa A.length ca] 45)) 27 #[.int .i64 p.1, .int .i64 p.2.1, .string p.2.2]
    simp only [World.size_alloc] at hX
    exact ret_box Try.results29 rfl rfl rfl hX ⟨rfl, ((Below.refl _ _).alloc (Nat.le_refl _) _).alloc (by simp) _⟩

/-- are two ends apart? -/
def apQ (x y : Int) (q : Int × Int) : Bool := (q.1 == x && q.2 == y) || (q.1 == y && q.2 == x)
set_option maxHeartbeats 1000000 in
theorem rapart_any (x y : Int) (h : RNet w base l a ps A) (hl : A.length ≤ 1000) :
    Calls Try.prog 32 #[rv l a, .int .i64 x, .int .i64 y] w fun e w' => e = .returned (.bool (A.any (apQ x y))) ∧ Below w.heap.size w w' := by
  obtain ⟨ad, c, rfl, _⟩ := own_shape h.row
  obtain ⟨aa, ca, rfl, _⟩ := own_shape h.prs
  have HR := Lib.hid h
  have HX := Lib.hid (Box.new w 45 #[.slice ad ps.length c, .slice aa A.length ca])
  unfold rv
  clear h
  go_enter Try.func32, Try.ntmps32
  go_wp2
  go_loopw [7] (fun i wr => ∃ k : Nat, k ≤ A.length ∧ i = .int .i64 k ∧ (A.take k).any (apQ x y) = false ∧ Below (w.heap.size + 1) (w.alloc (.cells #[.slice ad ps.length c, .slice aa A.length ca] 45)) wr) (fun i _ => A.length - (intOf i).toNat)
  case atStart => exact ⟨0, Nat.zero_le _, rfl, by simp, Below.refl _ _⟩
  case round =>
    obtain ⟨k, hk, rfl, hno, hbel⟩ := hrel
    have HX1 := Lib.hid (HX.out.below hbel (Nat.lt_succ_self _))
    have HB := Lib.hid (show Below w.heap.size w wr from ((Below.refl w.heap.size w).alloc (Nat.le_refl _) _).trans (hbel.mono (by omega)))
    have HBB := Lib.hid hbel
    have x1 : wr.cell? ⟨w.heap.size, 1, none⟩ = some (.slice aa A.length ca) := HX1.out.cell 1
    have hwr := HX1.out.lt
    have HNO := Lib.hid hno
    clear hno hbel
    by_cases hlt : k < A.length
    · obtain ⟨q, hq⟩ : ∃ q, A[k]? = some q := ⟨_, List.getElem?_eq_getElem hlt⟩
      obtain ⟨g, cap, he, hg, d0, d1⟩ := pr_cells (HR.out.below HB.out (Nat.le_refl _)).prs k q hq
      obtain ⟨rfl, rfl⟩ : aa = some ⟨g, 0, none⟩ ∧ ca = cap := by simpa using he
      obtain ⟨r, hr⟩ : ∃ r, apQ x y q = r := ⟨_, rfl⟩
      have hnext : (A.take (k + 1)).any (apQ x y) = r := by rw [List.take_add_one, hq, List.any_append, HNO.out]; simpa using hr
      have hall : r = true → A.any (apQ x y) = true := fun e => by rw [List.any_eq_true]; exact ⟨q, List.mem_of_getElem? hq, by rw [hr, e]⟩
      have HNX := Lib.hid hnext
      have HAL := Lib.hid hall
      have hap : ((q.1 == x && q.2 == y) || (q.1 == y && q.2 == x)) = r := hr
      clear he hq hr hnext hall
      cases h1 : (q.1 == x)
      · cases h3 : (q.1 == y)
        · obtain rfl : r = false := by rw [← hap, h1, h3]; rfl
          clear hap
          (go_wp2; go_roundw; (case rel => exact ⟨k + 1, by omega, by go_num, HNX.out, HBB.out.alloc (by omega) _⟩); (case measure => simp [intOf]; omega))
        · cases h4 : (q.2 == x)
          · obtain rfl : r = false := by rw [← hap, h1, h3, h4]; rfl
            clear hap
            (go_wp2; go_roundw; (case rel => exact ⟨k + 1, by omega, by go_num, HNX.out, HBB.out.alloc (by omega) _⟩); (case measure => simp [intOf]; omega))
          · obtain rfl : r = true := by rw [← hap, h1, h3, h4]; rfl
            clear hap
            (have HAT := Lib.hid (HAL.out rfl); clear HAL; go_wp2; go_ret; exact ⟨by rw [HAT.out]; rfl, HB.out.alloc HB.out.size _⟩)
      · cases h2 : (q.2 == y)
        · cases h3 : (q.1 == y)
          · obtain rfl : r = false := by rw [← hap, h1, h2, h3]; rfl
            clear hap
            (go_wp2; go_roundw; (case rel => exact ⟨k + 1, by omega, by go_num, HNX.out, HBB.out.alloc (by omega) _⟩); (case measure => simp [intOf]; omega))
          · cases h4 : (q.2 == x)
            · obtain rfl : r = false := by rw [← hap, h1, h2, h3, h4]; rfl
              clear hap
              (go_wp2; go_roundw; (case rel => exact ⟨k + 1, by omega, by go_num, HNX.out, HBB.out.alloc (by omega) _⟩); (case measure => simp [intOf]; omega))
            · obtain rfl : r = true := by rw [← hap, h1, h2, h3, h4]; rfl
              clear hap
              (have HAT := Lib.hid (HAL.out rfl); clear HAL; go_wp2; go_ret; exact ⟨by rw [HAT.out]; rfl, HB.out.alloc HB.out.size _⟩)
        · obtain rfl : r = true := by rw [← hap, h1, h2]; rfl
          clear hap
          (have HAT := Lib.hid (HAL.out rfl); clear HAL; go_wp2; go_ret; exact ⟨by rw [HAT.out]; rfl, HB.out.alloc HB.out.size _⟩)
    · have hfin : A.any (apQ x y) = false := by have := HNO.out; rwa [List.take_of_length_le (by omega)] at this
      have HF := Lib.hid hfin
      clear hfin
      go_wp2
      go_ret
      exact ⟨by rw [HF.out]; rfl, HB.out⟩
end Go.Proofs.Ytejoggbebmmlkaa
