/- ledger: calls on a disk that come in; what Open tells of any sectors. Conditions: as in each statement. -/
import Derived.Test.YtdiboicllolcnaaMd
namespace Go.Proofs.Ytdiboicllolcnaa
open Go Go.RowKit Go.ChangeShapes Go.WideShapes Go.ChangeAt Go.Deep
set_option linter.unusedVariables false
set_option linter.unusedSimpArgs false
variable {w w' : World} {base n nd b0 : Nat} {V V' : Vl} {VD VD' : Vs} {D D' : Dk} {G G' : Lg}
structure Op4 where
  kd : Int
  n : Int
  tear : Int
  b : Sec
structure In4 where
  o : Op4
  ad : Option Addr
  cap : Nat
def oc4 (x : In4) : List Value := [.int .i64 x.o.kd, .int .i64 x.o.n, .int .i64 x.o.tear, .slice x.ad x.o.b.length x.cap]
def secOf (zs : List Int) : Sec := zs.map fun n => UInt8.ofNat n.toNat
theorem bys_of_ints {w : World} {a : Option Addr} {len : Nat} {zs : List Int} (h : Ints .u8 w a len zs) : Bys w a len (secOf zs) := by
  obtain ⟨hl, hr, hm, hc⟩ := h
  have hrng : ∀ x ∈ zs, 0 ≤ x ∧ x < 256 := fun x hx => by
    have := hr x hx
    simp [Lit.wf, IntKind.min, IntKind.max, IntKind.signed, IntKind.bits] at this
    omega
  refine ⟨by simp [secOf, hl], hm, ?_⟩
  rcases Nat.eq_zero_or_pos len with h0 | h0
  · exact .inl h0
  · obtain ⟨b, off, rfl, hc'⟩ := hc.resolve_left (by omega)
    refine .inr ⟨b, off, rfl, World.block_lt_of_cell? w _ (hc' 0 h0), fun j v hj => ?_⟩
    have hjl : j < len := by have := (List.getElem?_eq_some_iff.1 hj).1; rw [bc_len] at this; simpa [secOf, hl] using this
    rw [hc' j hjl]
    have hz : j < zs.length := by omega
    have hb := hrng zs[j] (List.getElem_mem hz)
    simp only [bc, secOf, List.map_map, List.getElem?_map, List.getElem?_eq_getElem hz, Option.map_some, Function.comp, Option.some.injEq] at hj
    rw [← hj]
    simp only [List.getD_eq_getElem?_getD, List.getElem?_eq_getElem hz, Option.getD_some]
    congr 2
    simp
    omega
theorem shape32 {H : Type} {enc : TypeId × Value → H} {W : World} {n : Nat} {r : List Value} {y : DataW H × List MemPlace} (h : DataW.trod enc Try.prog W 0 (fun _ => true) true n 32 r = some y) :
    ∃ ad cap b, r = [.slice ad (List.length b) cap] ∧ Bys W ad (List.length b) b := by
  have key : ∀ (a : Option Addr) (len cap : Nat), r = [.slice a len cap] → ∃ ad cap b, r = [.slice ad (List.length b) cap] ∧ Bys W ad (List.length b) b := by
    rintro a len cap rfl
    obtain ⟨zs, hz, _, hc⟩ := open_Ints (a := a) (len := len) (cap := cap) (d := y.1) (p := y.2) Try.underlying32 Try.underlying5 (by kernel_rfl) ⟨n, h⟩
    have hb := bys_of_ints hz
    have hl := hb.1
    exact ⟨a, cap, secOf zs, by rw [hl], by rw [hl]; exact hb⟩
  rcases open_slice Try.underlying32 h with ⟨rfl, _⟩ | ⟨x, l, c, _, _, _, _, rfl, _⟩
  · exact key none 0 0 rfl
  · exact key (some x) l c rfl
theorem shape37 {H : Type} {enc : TypeId × Value → H} {W : World} {n : Nat} {r : List Value} {y : DataW H × List MemPlace} (h : DataW.trod enc Try.prog W 0 (fun _ => true) true n 37 r = some y) (hr : r.length = 4) : ∃ x : In4, r = oc4 x ∧ Bys W x.ad x.o.b.length x.o.b := by
  obtain ⟨xs, n', _, _, _, hlen, hg⟩ := DataW.trod_struct Try.underlying37 h
  match r, hr with
  | [c0, c1, c2, c3], _ =>
    match xs, hlen with
    | [y0, y1, y2, y3], _ =>
      have h0 := hg 0 _ rfl
      have h1 := hg 1 _ rfl
      have h2 := hg 2 _ rfl
      have h3 := hg 3 _ rfl
      have k3 : Try.prog.cellsOf 3 = 1 := by kernel_rfl
      have k32 : Try.prog.cellsOf 32 = 1 := by kernel_rfl
      simp [k3, k32] at h0 h1 h2 h3
      obtain ⟨a, ha, _⟩ := DataW.trod_int Try.underlying3 h0
      obtain ⟨b, hb, _, hbw⟩ := DataW.trod_int Try.underlying3 h1
      obtain ⟨c, hc, _⟩ := DataW.trod_int Try.underlying3 h2
      obtain ⟨ad, cap, s, hs, hB⟩ := shape32 h3
      simp at ha hb hc hs
      exact ⟨⟨⟨a, b, c, s⟩, ad, cap⟩, by rw [ha, hb, hc, hs]; rfl, hB⟩
theorem rows_in4 {W : World} : ∀ (l : List (List Value)), (∀ r ∈ l, ∃ x : In4, r = oc4 x ∧ Bys W x.ad x.o.b.length x.o.b) → ∃ xs : List In4, l = xs.map oc4 ∧ ∀ x ∈ xs, Bys W x.ad x.o.b.length x.o.b := by
  intro l
  induction l with
  | nil => exact fun _ => ⟨[], rfl, by simp⟩
  | cons r l ih =>
    intro h
    obtain ⟨p, rfl, hp⟩ := h r (by simp)
    obtain ⟨ps, rfl, hps⟩ := ih fun r hr => h r (by simp [hr])
    exact ⟨p :: ps, rfl, fun z hz => (List.mem_cons.1 hz).elim (fun e => e ▸ hp) (hps z)⟩
/-- a script that comes in. -/
def Ops4At (w : World) (a : Option Addr) (len : Nat) (xs : List In4) : Prop := RowsAt w 4 a len (xs.map oc4) ∧ ∀ x ∈ xs, Bys w x.ad x.o.b.length x.o.b
theorem Ops4At.len {w : World} {a : Option Addr} {len : Nat} {xs : List In4} (h : Ops4At w a len xs) : xs.length = len := by have := h.1.1; rwa [List.length_map] at this
theorem Ops4At.get {w : World} {a : Option Addr} {len : Nat} {xs : List In4} (h : Ops4At w a len xs) (k : Nat) (hk : k < len) :
    ∃ b off x, a = some ⟨b, off, none⟩ ∧ xs[k]? = some x ∧ b < w.heap.size ∧ Bys w x.ad x.o.b.length x.o.b ∧ w.cell? ⟨b, off + k * 4, none⟩ = some (.int .i64 x.o.kd) ∧ w.cell? ⟨b, off + k * 4 + 1, none⟩ = some (.int .i64 x.o.n) ∧ w.cell? ⟨b, off + k * 4 + 2, none⟩ = some (.int .i64 x.o.tear) ∧
      w.cell? ⟨b, off + k * 4 + 3, none⟩ = some (.slice x.ad x.o.b.length x.cap) := by
  have hl := h.len
  obtain ⟨⟨h1, h2⟩, hx⟩ := h
  obtain ⟨b, off, rfl, hb, hc⟩ := h2.resolve_left (by omega)
  have hp : xs[k]? = some (xs[k]'(by omega)) := List.getElem?_eq_getElem (by omega)
  have hr : (xs.map oc4)[k]? = some (oc4 (xs[k]'(by omega))) := by rw [List.getElem?_map, hp]; rfl
  have hm := hx _ (List.mem_of_getElem? hp)
  exact ⟨b, off, _, rfl, hp, hb, hm, hc k _ hr 0 _ rfl, hc k _ hr 1 _ rfl, hc k _ hr 2 _ rfl, hc k _ hr 3 _ rfl⟩
theorem open_ops4 {H : Type} {enc : TypeId × Value → H} {W : World} {base : Nat} {v : Value} {d : DataW H} {p : List MemPlace} (hv : Value.okWide Try.prog W .any base 34 v) (h : DataW.Trod enc Try.prog W 0 (fun _ => true) true 34 v d p) :
    ∃ a len cap xs, v = .slice a len cap ∧ Ops4At W a len xs ∧ len ≤ cap ∧ cap ≤ maxLen := by
  obtain ⟨a, len, cap, rfl⟩ := okWide_slice Try.underlying34 hv
  obtain ⟨rows, hr, _, h1, h2, hs⟩ := open_rows Try.underlying34 (show Try.prog.cellsOf 37 = 4 by kernel_rfl) (by omega) h
  obtain ⟨xs, rfl, hx⟩ := rows_in4 (W := W) rows fun r hrm => by
    obtain ⟨hl, n, y, hy⟩ := hs r hrm
    exact shape37 hy hl
  exact ⟨a, len, cap, xs, rfl, ⟨hr, hx⟩, h1, h2⟩
theorem be4_num (l : Sec) (h : l.length = 4) : be4 (num l) = l := by
  match l, h with
  | [a, b, c, d], _ =>
    have h1 := a.toNat_lt
    have h2 := b.toNat_lt
    have h3 := c.toNat_lt
    have h4 := d.toNat_lt
    have hn : num [a, b, c, d] = ((a.toNat * 256 + b.toNat) * 256 + c.toNat) * 256 + d.toNat := by
      simp only [num, List.foldl_cons, List.foldl_nil, stepT]
      omega
    unfold be4
    rw [hn]
    have e : ∀ (x : UInt8) (N k : Nat), N / 256 ^ k % 256 = x.toNat → byteN N k = x := fun x N k h => UInt8.toNat_inj.1 (by rw [byteN_nat]; exact h)
    rw [e a _ 3 (by simp only [Nat.reducePow]; omega), e b _ 2 (by simp only [Nat.reducePow]; omega), e c _ 1 (by simp only [Nat.reducePow]; omega), e d _ 0 (by simp only [Nat.pow_zero, Nat.div_one]; omega)]
/-- what is read as records is these records' bytes. -/
theorem dec_enc : ∀ (m : Nat) (b : Sec) (all : List ByteArray), b.length ≤ m → decL b = some all → encL all = b ∧ longB all = false := by
  intro m
  induction m with
  | zero =>
    intro b all hb h
    have h0 : b.length = 0 := by omega
    rw [decL_nil h0] at h
    obtain rfl := Option.some.inj h
    exact ⟨(List.length_eq_zero_iff.1 h0).symm, rfl⟩
  | succ m ih =>
    intro b all hb h
    by_cases h0 : b.length = 0
    · rw [decL_nil h0] at h
      obtain rfl := Option.some.inj h
      exact ⟨(List.length_eq_zero_iff.1 h0).symm, rfl⟩
    by_cases h4 : b.length < 4
    · rw [decL_short h0 h4] at h; cases h
    by_cases hbad : 4096 < num (b.take 4) ∨ b.length - 4 < num (b.take 4)
    · rw [decL_bad h0 h4 hbad] at h; cases h
    rw [decL_more h0 h4 hbad] at h
    obtain ⟨N, hN⟩ : ∃ N, N = num (b.take 4) := ⟨_, rfl⟩
    rw [← hN] at h hbad
    cases hd : decL (b.drop (4 + N)) with
    | none => rw [hd] at h; cases h
    | some l =>
      rw [hd] at h
      obtain rfl := Option.some.inj h
      obtain ⟨i1, i2⟩ := ih _ l (by rw [List.length_drop]; omega) hd
      have hxl : ((b.drop 4).take N).length = N := by rw [List.length_take, List.length_drop]; omega
      have hsz : (txt ((b.drop 4).take N)).size = N := by show ((b.drop 4).take N).toArray.size = N; rw [List.size_toArray]; exact hxl
      have hfr : frame (txt ((b.drop 4).take N)) = b.take 4 ++ (b.drop 4).take N := by
        unfold frame
        rw [hsz, hN, be4_num _ (by rw [List.length_take]; omega)]
        congr 1
      constructor
      · unfold encL at i1 ⊢
        rw [List.flatMap_cons, i1, hfr]
        rw [List.append_assoc]
        have e1 : b.drop (4 + N) = (b.drop 4).drop N := by rw [List.drop_drop]
        rw [e1, List.take_append_drop, List.take_append_drop]
      · show ((decide (4096 < (txt ((b.drop 4).take N)).size)) || longB l) = false
        rw [i2, hsz, decide_eq_false (by omega)]; rfl
theorem okl_open {f M : Nat} (hg : Good D) (hd : D.dead = false) (h4 : 4 ≤ M) (hl : f + M ≤ D.now.length) (h : openG D f M = some G) : Okl D G ∧ G.dead = false ∧ 1 ≤ G.size := by
  have hm := marks_at hg h4 hl 2
  unfold openG at h
  cases hb : decL ((halfB D (markG D f M 2)).take (markG D f M 2).firm) with
  | none => rw [hb] at h; cases h
  | some all =>
    rw [hb] at h
    obtain rfl := Option.some.inj h
    obtain ⟨e1, e2⟩ := dec_enc _ _ _ (Nat.le_refl _) hb
    refine ⟨⟨hg, ⟨hm.fits.size0, hm.fits.size, hm.fits.disk, hm.fits.half, ?_⟩, by rw [hd]; exact hm.dead.symm, e1.symm, e2⟩, hm.dead, hm.fits.size0⟩
    show ((halfB D (markG D f M 2)).take (markG D f M 2).firm).length ≤ (markG D f M 2).size * 64
    have := hm.firm
    rw [List.length_take]
    omega
theorem wrD_0 (k : Int) (b : Sec) (hd : D.dead = false) (h : D.armed = 0) : (wrD D k b).dead = false ∧ (wrD D k b).armed = 0 ∧ (wrD D k b).now.length = D.now.length := by
  unfold wrD
  split
  · exact ⟨hd, h, rfl⟩
  · rw [(dies_0 (D := putD D k.toNat (pad b)) h).2]
    exact ⟨hd, h, List.length_set ..⟩
end Go.Proofs.Ytdiboicllolcnaa
