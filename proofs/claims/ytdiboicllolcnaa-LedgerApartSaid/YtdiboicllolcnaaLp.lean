/- ledger: scripts of calls that come in; a ledger behind a call, in plain words. Conditions: the script lies in memory. -/
import Derived.Test.YtdiboicllolcnaaLo
import Derived.Test.YtdiboicllolcnaaOpenS
namespace Go.Proofs.Ytdiboicllolcnaa
open Go Go.RowKit Go.ChangeShapes Go.WideShapes Go.ChangeAt Go.Deep
set_option linter.unusedVariables false
set_option linter.unusedSimpArgs false
variable {w w' : World} {base n nd b0 : Nat} {V V' : Vl} {VD VD' : Vs} {D D' : Dk} {G G' : Lg}
/-- a call. -/
structure Op5 where
  kd : Int
  s : ByteArray
  all : List ByteArray
structure In5 where
  o : Op5
  ad : Option Addr
  cap : Nat
def oc (x : In5) : List Value := [.int .i64 x.o.kd, .string x.o.s, .slice x.ad x.o.all.length x.cap]
abbrev ov (o : Op5) (ad : Option Addr) (cap : Nat) : Value := .agg #[.int .i64 o.kd, .string o.s, .slice ad o.all.length cap]
/-- what is known of the texts of a call. -/
structure TxIn (w : World) (ad : Option Addr) (cap : Nat) (xs : List ByteArray) : Prop where
  at_ : Txs w ad xs.length xs
  nil : ad = none → cap = 0
  cap : xs.length ≤ cap
theorem TxIn.below {ad : Option Addr} {cap B : Nat} {xs : List ByteArray} (h : TxIn w ad cap xs) (hb : Below B w w') (hB : w.heap.size ≤ B) : TxIn w' ad cap xs := ⟨h.at_.below hb hB, h.nil, h.cap⟩
theorem shape42 {H : Type} {enc : TypeId × Value → H} {W : World} {n : Nat} {r : List Value} {y : DataW H × List MemPlace} (h : DataW.trod enc Try.prog W 0 (fun _ => true) true n 42 r = some y) :
    ∃ ad cap xs, r = [.slice ad (List.length xs) cap] ∧ TxIn W ad cap xs := by
  have key : ∃ ad len cap, r = [.slice ad len cap] ∧ (ad = none → cap = 0) := by
    rcases open_slice Try.underlying42 h with ⟨hcs, _⟩ | ⟨x, l, c', m, n, D, Pl, hcs, _⟩
    · exact ⟨_, _, _, hcs, fun _ => rfl⟩
    · exact ⟨_, _, _, hcs, fun e => by cases e⟩
  obtain ⟨ad, len, cap, rfl, hnil⟩ := key
  obtain ⟨rows, hr, _, hlc, hcm, hs⟩ := open_rows (a := ad) (len := len) (cap := cap) (d := y.1) (p := y.2) Try.underlying42 (C := 1) (by kernel_rfl) (by omega) ⟨n, by simpa [Value.cells] using h⟩
  have hrow : ∀ r ∈ rows, ∃ s : ByteArray, r = [.string s] := by
    intro r hrm
    obtain ⟨hl, m, z, hz⟩ := hs r hrm
    match r, hl with
    | [u], _ =>
      obtain ⟨s, hs, _⟩ := DataW.trod_string Try.underlying9 hz
      simp at hs
      exact ⟨s, by rw [hs]⟩
  obtain ⟨xs, hxs⟩ : ∃ xs : List ByteArray, rows = xs.map fun s => [Value.string s] := by
    clear hr hs
    induction rows with
    | nil => exact ⟨[], rfl⟩
    | cons r l ih =>
      obtain ⟨s, rfl⟩ := hrow r (by simp)
      obtain ⟨xs, rfl⟩ := ih (fun r hr => hrow r (by simp [hr]))
      exact ⟨s :: xs, rfl⟩
  have hlen : xs.length = len := by rw [← hr.1, hxs, List.length_map]
  refine ⟨ad, cap, xs, by rw [hlen], ⟨⟨rfl, by omega, ?_⟩, hnil, by omega⟩⟩
  rw [hlen]
  refine hr.2.imp id ?_
  rintro ⟨b, off, rfl, hb, hc⟩
  refine ⟨b, off, rfl, hb, fun j s hj => ?_⟩
  have := hc j [.string s] (by rw [hxs, List.getElem?_map, hj]; rfl) 0 _ rfl
  simpa using this
theorem shape49 {H : Type} {enc : TypeId × Value → H} {W : World} {n : Nat} {r : List Value} {y : DataW H × List MemPlace} (h : DataW.trod enc Try.prog W 0 (fun _ => true) true n 49 r = some y) (hr : r.length = 3) : ∃ x : In5, r = oc x ∧ TxIn W x.ad x.cap x.o.all := by
  obtain ⟨xs, n', _, _, _, hlen, hg⟩ := DataW.trod_struct Try.underlying49 h
  match r, hr with
  | [c0, c1, c2], _ =>
    match xs, hlen with
    | [y0, y1, y2], _ =>
      have h0 := hg 0 _ rfl
      have h1 := hg 1 _ rfl
      have h2 := hg 2 _ rfl
      have k3 : Try.prog.cellsOf 3 = 1 := by kernel_rfl
      have k9 : Try.prog.cellsOf 9 = 1 := by kernel_rfl
      have k42 : Try.prog.cellsOf 42 = 1 := by kernel_rfl
      simp [k3, k9, k42] at h0 h1 h2
      obtain ⟨a, ha, _⟩ := DataW.trod_int Try.underlying3 h0
      obtain ⟨s, hs, _⟩ := DataW.trod_string Try.underlying9 h1
      obtain ⟨ad, cap, l, hl, hB⟩ := shape42 h2
      simp at ha hs hl
      exact ⟨⟨⟨a, s, l⟩, ad, cap⟩, by rw [ha, hs, hl]; rfl, hB⟩
theorem rows_in {W : World} : ∀ (l : List (List Value)), (∀ r ∈ l, ∃ x : In5, r = oc x ∧ TxIn W x.ad x.cap x.o.all) → ∃ xs : List In5, l = xs.map oc ∧ ∀ x ∈ xs, TxIn W x.ad x.cap x.o.all := by
  intro l
  induction l with
  | nil => exact fun _ => ⟨[], rfl, by simp⟩
  | cons r l ih =>
    intro h
    obtain ⟨p, rfl, hp⟩ := h r (by simp)
    obtain ⟨ps, rfl, hps⟩ := ih fun r hr => h r (by simp [hr])
    exact ⟨p :: ps, rfl, fun z hz => (List.mem_cons.1 hz).elim (fun e => e ▸ hp) (hps z)⟩
/-- a script that comes in. -/
def OpsAt (w : World) (a : Option Addr) (len : Nat) (xs : List In5) : Prop := RowsAt w 3 a len (xs.map oc) ∧ ∀ x ∈ xs, TxIn w x.ad x.cap x.o.all
theorem OpsAt.len {w : World} {a : Option Addr} {len : Nat} {xs : List In5} (h : OpsAt w a len xs) : xs.length = len := by have := h.1.1; rwa [List.length_map] at this
theorem OpsAt.below {w w' : World} {a : Option Addr} {len B : Nat} {xs : List In5} (h : OpsAt w a len xs) (hb : Below B w w') (hB : w.heap.size ≤ B) : OpsAt w' a len xs := ⟨h.1.below hb hB, fun x hx => (h.2 x hx).below hb hB⟩
theorem OpsAt.get {w : World} {a : Option Addr} {len : Nat} {xs : List In5} (h : OpsAt w a len xs) (k : Nat) (hk : k < len) :
    ∃ b off x, a = some ⟨b, off, none⟩ ∧ xs[k]? = some x ∧ b < w.heap.size ∧ TxIn w x.ad x.cap x.o.all ∧ w.cell? ⟨b, off + k * 3, none⟩ = some (.int .i64 x.o.kd) ∧ w.cell? ⟨b, off + k * 3 + 1, none⟩ = some (.string x.o.s) ∧ w.cell? ⟨b, off + k * 3 + 2, none⟩ = some (.slice x.ad x.o.all.length x.cap) := by
  have hl := h.len
  obtain ⟨⟨h1, h2⟩, hx⟩ := h
  obtain ⟨b, off, rfl, hb, hc⟩ := h2.resolve_left (by omega)
  have hp : xs[k]? = some (xs[k]'(by omega)) := List.getElem?_eq_getElem (by omega)
  have hr : (xs.map oc)[k]? = some (oc (xs[k]'(by omega))) := by rw [List.getElem?_map, hp]; rfl
  have hm := hx _ (List.mem_of_getElem? hp)
  exact ⟨b, off, _, rfl, hp, hb, hm, hc k _ hr 0 _ rfl, hc k _ hr 1 _ rfl, hc k _ hr 2 _ rfl⟩
theorem open_ops {H : Type} {enc : TypeId × Value → H} {W : World} {base : Nat} {v : Value} {d : DataW H} {p : List MemPlace} (hv : Value.okWide Try.prog W .any base 46 v) (h : DataW.Trod enc Try.prog W 0 (fun _ => true) true 46 v d p) :
    ∃ a len cap xs, v = .slice a len cap ∧ OpsAt W a len xs ∧ len ≤ cap ∧ cap ≤ maxLen := by
  obtain ⟨a, len, cap, rfl⟩ := okWide_slice Try.underlying46 hv
  obtain ⟨rows, hr, _, h1, h2, hs⟩ := open_rows Try.underlying46 (show Try.prog.cellsOf 49 = 3 by kernel_rfl) (by omega) h
  obtain ⟨xs, rfl, hx⟩ := rows_in (W := W) rows fun r hrm => by
    obtain ⟨hl, n, y, hy⟩ := hs r hrm
    exact shape49 hy hl
  exact ⟨a, len, cap, xs, rfl, ⟨hr, hx⟩, h1, h2⟩
theorem open_texts {H : Type} {enc : TypeId × Value → H} {W : World} {base : Nat} {v : Value} {d : DataW H} {p : List MemPlace} (hv : Value.okWide Try.prog W .any base 42 v) (h : DataW.Trod enc Try.prog W 0 (fun _ => true) true 42 v d p) :
    ∃ ad cap xs, v = .slice ad (List.length xs) cap ∧ TxIn W ad cap xs ∧ cap ≤ maxLen := by
  obtain ⟨a, len, cap, rfl⟩ := okWide_slice Try.underlying42 hv
  obtain ⟨n, hn⟩ := h
  obtain ⟨ad, cap', xs, e, hx⟩ := shape42 hn
  have e1 : Value.slice a len cap = .slice ad xs.length cap' := by simpa [Value.cells] using e
  refine ⟨ad, cap', xs, e1, hx, ?_⟩
  obtain ⟨_, _, _, _, h2, _⟩ := open_rows (C := 1) Try.underlying42 (show Try.prog.cellsOf 9 = 1 by kernel_rfl) (by omega) ⟨n, hn⟩
  injection e1 with _ _ e3
  omega
/-- a ledger and its disk behind a call; what it answers. -/
def stepL (o : Op5) (D : Dk) (G : Lg) : Dk × Lg × Int :=
  if o.kd = 0 then (appD D G o.s, appG D G o.s, appE D G o.s)
  else if o.kd = 1 then (lsyD D G, lsyG D G, if lsyB D G then 0 else 40)
  else if o.kd = 2 then (repD D G o.all, repG D G o.all, repE D G o.all)
  else (D, G, 0)
/-- many calls. -/
def playL (xs : List Op5) (s : Dk × Lg) : Dk × Lg := xs.foldl (fun s o => ((stepL o s.1 s.2).1, (stepL o s.1 s.2).2.1)) s
theorem playL_next {xs : List In5} {k : Nat} {x : In5} (h : xs[k]? = some x) (s : Dk × Lg) : playL ((xs.take (k + 1)).map (·.o)) s = ((stepL x.o (playL ((xs.take k).map (·.o)) s).1 (playL ((xs.take k).map (·.o)) s).2).1, (stepL x.o (playL ((xs.take k).map (·.o)) s).1 (playL ((xs.take k).map (·.o)) s).2).2.1) := by
  unfold playL; rw [List.take_add_one, h, List.map_append, List.foldl_append]; rfl
end Go.Proofs.Ytdiboicllolcnaa
