/- porter: calls and replies that come in. Conditions: none. -/
import Derived.Test.YtlkilkndjfcejaaPm
import Derived.Test.YtlkilkndjfcejaaOpenB
namespace Go.Proofs.Ytlkilkndjfcejaa
open Go Go.RowKit Go.ChangeShapes Go.WideShapes Go.ChangeAt Go.Deep
set_option linter.unusedVariables false
set_option linter.unusedSimpArgs false
variable {w w' : World} {base n : Nat} {V V' : Vs} {s s' : St}

def cll (c : Cl) : List Value := [.int .i64 c.cl, .int .i64 c.nu, .int .i64 c.kd, .int .i64 c.h1, .int .i64 c.h2, .int .i64 c.g1, .int .i64 c.g2, .string c.nm, .string c.ot, .int .i64 c.m1, .int .i64 c.m2, .int .i64 c.m3, .string c.mt, .bool c.fo, .int .i64 c.aa, .int .i64 c.nn, .int .i64 c.tt, .string c.bb]
def acl (a : An) : List Value := [.int .i64 a.co, .int .i64 a.h1, .int .i64 a.h2, .string a.b, .int .i64 a.i1, .int .i64 a.i2, .int .i64 a.i3, .int .i64 a.i4, .int .i64 a.i5, .int .i64 a.i6, .int .i64 a.i7, .int .i64 a.i8, .slice a.na a.nl a.nc]
def rpl (r : Rp) : List Value := [.int .i64 r.vol, .int .i64 r.srv, .int .i64 r.cl, .int .i64 r.nu, .int .i64 r.co, .int .i64 r.a.co, .int .i64 r.a.h1, .int .i64 r.a.h2, .string r.a.b, .int .i64 r.a.i1, .int .i64 r.a.i2, .int .i64 r.a.i3, .int .i64 r.a.i4, .int .i64 r.a.i5, .int .i64 r.a.i6, .int .i64 r.a.i7, .int .i64 r.a.i8, .slice r.a.na r.a.nl r.a.nc]
/-- an answer's names can be read. -/
def Strs (w : World) (a : An) : Prop := a.nl ≤ maxLen ∧ (a.nl = 0 ∨ ∃ b off, a.na = some ⟨b, off, none⟩ ∧ b < w.heap.size ∧ ∀ i, i < a.nl → ∃ s, w.cell? ⟨b, off + i, none⟩ = some (.string s))
theorem Strs.below {a : An} (h : Strs w a) (hb : Below w.heap.size w w') : Strs w' a := by
  refine ⟨h.1, h.2.imp id ?_⟩
  rintro ⟨b, off, e, hl, hc⟩
  exact ⟨b, off, e, Nat.lt_of_lt_of_le hl hb.size, fun i hi => by obtain ⟨s, hs⟩ := hc i hi; exact ⟨s, (hb.cell (p := ⟨b, off + i, none⟩) hl).trans hs⟩⟩
set_option maxRecDepth 100000 in
theorem shape40 {H : Type} {enc : TypeId × Value → H} {W : World} {n : Nat} {c : Value} {y : DataW H × List MemPlace} (h : DataW.trod enc Try.prog W 0 (fun _ => true) true n 40 [c] = some y) :
    ∃ (a : Option Addr) (l p : Nat), [c] = [.slice a l p] ∧ (l ≤ maxLen ∧ (l = 0 ∨ ∃ b off, a = some ⟨b, off, none⟩ ∧ b < W.heap.size ∧ ∀ i, i < l → ∃ s, W.cell? ⟨b, off + i, none⟩ = some (.string s))) := by
  have key : ∃ ad len cap, c = .slice ad len cap := by
    rcases open_slice Try.underlying40 h with ⟨hcs, _⟩ | ⟨x, l, c', m, n, D, Pl, hcs, _⟩
    · simp at hcs; exact ⟨_, _, _, hcs⟩
    · simp at hcs; exact ⟨_, _, _, hcs⟩
  obtain ⟨ad, len, cap, rfl⟩ := key
  obtain ⟨rows, hr, _, hlc, hcm, hs⟩ := open_rows (a := ad) (len := len) (cap := cap) (d := y.1) (p := y.2) Try.underlying40 (C := 1) (by kernel_rfl) (by omega) ⟨n, by simpa [Value.cells] using h⟩
  refine ⟨ad, len, cap, rfl, Nat.le_trans hlc hcm, hr.2.imp id ?_⟩
  rintro ⟨b, off, rfl, hb, hc⟩
  refine ⟨b, off, rfl, hb, fun i hi => ?_⟩
  obtain ⟨r, hri⟩ : ∃ r, rows[i]? = some r := ⟨_, List.getElem?_eq_getElem (by rw [hr.1]; exact hi)⟩
  obtain ⟨hl, m, z, hz⟩ := hs r (List.mem_of_getElem? hri)
  match r, hl with
  | [u], _ =>
    obtain ⟨s, hs, _⟩ := DataW.trod_string Try.underlying9 hz
    simp at hs
    have := hc i _ hri 0 u rfl
    simp only [Nat.mul_one, Nat.add_zero] at this
    exact ⟨s, by rw [this, hs]⟩
set_option maxRecDepth 100000 in
theorem shape32 {H : Type} {enc : TypeId × Value → H} {W : World} {n : Nat} {r : List Value} {y : DataW H × List MemPlace} (h : DataW.trod enc Try.prog W 0 (fun _ => true) true n 32 r = some y) (hr : r.length = 2) : ∃ a b : Int, r = [.int .i64 a, .int .i64 b] := by
  obtain ⟨xs, n', _, hx, _, hlen, hg⟩ := DataW.trod_struct Try.underlying32 h
  match r, hr with
  | [c0, c1], _ =>
    match xs, hlen with
    | [y0, y1], _ =>
      have h0 := hg 0 _ rfl
      have h1 := hg 1 _ rfl
      have k3 : Try.prog.cellsOf 3 = 1 := by kernel_rfl
      simp [k3] at h0 h1
      obtain ⟨v0, e0, _⟩ := DataW.trod_int Try.underlying3 h0
      obtain ⟨v1, e1, _⟩ := DataW.trod_int Try.underlying3 h1
      simp [acl, rpl, cll] at e0 e1
      exact ⟨v0, v1, by rw [e0, e1]⟩
set_option maxRecDepth 100000 in
theorem shape34 {H : Type} {enc : TypeId × Value → H} {W : World} {n : Nat} {r : List Value} {y : DataW H × List MemPlace} (h : DataW.trod enc Try.prog W 0 (fun _ => true) true n 34 r = some y) (hr : r.length = 4) : ∃ (a b c : Int) (s : ByteArray), r = [.int .i64 a, .int .i64 b, .int .i64 c, .string s] := by
  obtain ⟨xs, n', _, hx, _, hlen, hg⟩ := DataW.trod_struct Try.underlying34 h
  match r, hr with
  | [c0, c1, c2, c3], _ =>
    match xs, hlen with
    | [y0, y1, y2, y3], _ =>
      have h0 := hg 0 _ rfl
      have h1 := hg 1 _ rfl
      have h2 := hg 2 _ rfl
      have h3 := hg 3 _ rfl
      have k3 : Try.prog.cellsOf 3 = 1 := by kernel_rfl
      have k9 : Try.prog.cellsOf 9 = 1 := by kernel_rfl
      simp [k3, k9] at h0 h1 h2 h3
      obtain ⟨v0, e0, _⟩ := DataW.trod_int Try.underlying3 h0
      obtain ⟨v1, e1, _⟩ := DataW.trod_int Try.underlying3 h1
      obtain ⟨v2, e2, _⟩ := DataW.trod_int Try.underlying3 h2
      obtain ⟨v3, e3, _⟩ := DataW.trod_string Try.underlying9 h3
      simp [acl, rpl, cll] at e0 e1 e2 e3
      exact ⟨v0, v1, v2, v3, by rw [e0, e1, e2, e3]⟩
set_option maxRecDepth 100000 in
theorem shape39 {H : Type} {enc : TypeId × Value → H} {W : World} {n : Nat} {r : List Value} {y : DataW H × List MemPlace} (h : DataW.trod enc Try.prog W 0 (fun _ => true) true n 39 r = some y) (hr : r.length = 8) : ∃ a b c d e f g i : Int, r = [.int .i64 a, .int .i64 b, .int .i64 c, .int .i64 d, .int .i64 e, .int .i64 f, .int .i64 g, .int .i64 i] := by
  obtain ⟨xs, n', _, hx, _, hlen, hg⟩ := DataW.trod_struct Try.underlying39 h
  match r, hr with
  | [c0, c1, c2, c3, c4, c5, c6, c7], _ =>
    match xs, hlen with
    | [y0, y1, y2, y3, y4, y5, y6, y7], _ =>
      have h0 := hg 0 _ rfl
      have h1 := hg 1 _ rfl
      have h2 := hg 2 _ rfl
      have h3 := hg 3 _ rfl
      have h4 := hg 4 _ rfl
      have h5 := hg 5 _ rfl
      have h6 := hg 6 _ rfl
      have h7 := hg 7 _ rfl
      have k3 : Try.prog.cellsOf 3 = 1 := by kernel_rfl
      simp [k3] at h0 h1 h2 h3 h4 h5 h6 h7
      obtain ⟨v0, e0, _⟩ := DataW.trod_int Try.underlying3 h0
      obtain ⟨v1, e1, _⟩ := DataW.trod_int Try.underlying3 h1
      obtain ⟨v2, e2, _⟩ := DataW.trod_int Try.underlying3 h2
      obtain ⟨v3, e3, _⟩ := DataW.trod_int Try.underlying3 h3
      obtain ⟨v4, e4, _⟩ := DataW.trod_int Try.underlying3 h4
      obtain ⟨v5, e5, _⟩ := DataW.trod_int Try.underlying3 h5
      obtain ⟨v6, e6, _⟩ := DataW.trod_int Try.underlying3 h6
      obtain ⟨v7, e7, _⟩ := DataW.trod_int Try.underlying3 h7
      simp [acl, rpl, cll] at e0 e1 e2 e3 e4 e5 e6 e7
      exact ⟨v0, v1, v2, v3, v4, v5, v6, v7, by rw [e0, e1, e2, e3, e4, e5, e6, e7]⟩
set_option maxRecDepth 100000 in
theorem shape42 {H : Type} {enc : TypeId × Value → H} {W : World} {n : Nat} {r : List Value} {y : DataW H × List MemPlace} (h : DataW.trod enc Try.prog W 0 (fun _ => true) true n 42 r = some y) (hr : r.length = 13) : ∃ a : An, r = acl a ∧ Strs W a := by
  obtain ⟨xs, n', _, hx, _, hlen, hg⟩ := DataW.trod_struct Try.underlying42 h
  match r, hr with
  | [c0, c1, c2, c3, c4, c5, c6, c7, c8, c9, c10, c11, c12], _ =>
    match xs, hlen with
    | [y0, y1, y2, y3, y4], _ =>
      have h0 := hg 0 _ rfl
      have h1 := hg 1 _ rfl
      have h2 := hg 2 _ rfl
      have h3 := hg 3 _ rfl
      have h4 := hg 4 _ rfl
      have k9 : Try.prog.cellsOf 9 = 1 := by kernel_rfl
      have k27 : Try.prog.cellsOf 27 = 1 := by kernel_rfl
      have k32 : Try.prog.cellsOf 32 = 2 := by kernel_rfl
      have k39 : Try.prog.cellsOf 39 = 8 := by kernel_rfl
      have k40 : Try.prog.cellsOf 40 = 1 := by kernel_rfl
      simp [k9, k27, k32, k39, k40] at h0 h1 h2 h3 h4
      obtain ⟨v0, e0, _⟩ := DataW.trod_int Try.underlying27 h0
      obtain ⟨v1, w1, e1⟩ := shape32 h1 rfl
      obtain ⟨v2, e2, _⟩ := DataW.trod_string Try.underlying9 h2
      obtain ⟨q0, q1, q2, q3, q4, q5, q6, q7, e3⟩ := shape39 h3 rfl
      obtain ⟨a4, l4, p4, e4, z4⟩ := shape40 h4
      simp [acl, rpl, cll] at e0 e1 e2 e3 e4
      refine ⟨⟨v0, v1, w1, v2, q0, q1, q2, q3, q4, q5, q6, q7, a4, l4, p4⟩, ?_, z4⟩
      simp [acl, e0, e1, e2, e3, e4]
set_option maxRecDepth 100000 in
theorem shape56 {H : Type} {enc : TypeId × Value → H} {W : World} {n : Nat} {r : List Value} {y : DataW H × List MemPlace} (h : DataW.trod enc Try.prog W 0 (fun _ => true) true n 56 r = some y) (hr : r.length = 16) : ∃ q : Int × Int × Int × An, r = [.int .i64 q.1, .int .i64 q.2.1, .int .i64 q.2.2.1] ++ acl q.2.2.2 ∧ Strs W q.2.2.2 := by
  obtain ⟨xs, n', _, hx, _, hlen, hg⟩ := DataW.trod_struct Try.underlying56 h
  match r, hr with
  | [c0, c1, c2, c3, c4, c5, c6, c7, c8, c9, c10, c11, c12, c13, c14, c15], _ =>
    match xs, hlen with
    | [y0, y1, y2, y3], _ =>
      have h0 := hg 0 _ rfl
      have h1 := hg 1 _ rfl
      have h2 := hg 2 _ rfl
      have h3 := hg 3 _ rfl
      have k3 : Try.prog.cellsOf 3 = 1 := by kernel_rfl
      have k27 : Try.prog.cellsOf 27 = 1 := by kernel_rfl
      have k42 : Try.prog.cellsOf 42 = 13 := by kernel_rfl
      simp [k3, k27, k42] at h0 h1 h2 h3
      obtain ⟨v0, e0, _⟩ := DataW.trod_int Try.underlying3 h0
      obtain ⟨v1, e1, _⟩ := DataW.trod_int Try.underlying3 h1
      obtain ⟨v2, e2, _⟩ := DataW.trod_int Try.underlying27 h2
      obtain ⟨v3, e3, z3⟩ := shape42 h3 rfl
      simp [acl, rpl, cll] at e0 e1 e2 e3
      refine ⟨(v0, v1, v2, v3), ?_, z3⟩
      simp [acl, e0, e1, e2, e3]
set_option maxRecDepth 100000 in
theorem shape58 {H : Type} {enc : TypeId × Value → H} {W : World} {n : Nat} {r : List Value} {y : DataW H × List MemPlace} (h : DataW.trod enc Try.prog W 0 (fun _ => true) true n 58 r = some y) (hr : r.length = 18) : ∃ q : Rp, r = rpl q ∧ Strs W q.a := by
  obtain ⟨xs, n', _, hx, _, hlen, hg⟩ := DataW.trod_struct Try.underlying58 h
  match r, hr with
  | [c0, c1, c2, c3, c4, c5, c6, c7, c8, c9, c10, c11, c12, c13, c14, c15, c16, c17], _ =>
    match xs, hlen with
    | [y0, y1, y2], _ =>
      have h0 := hg 0 _ rfl
      have h1 := hg 1 _ rfl
      have h2 := hg 2 _ rfl
      have k3 : Try.prog.cellsOf 3 = 1 := by kernel_rfl
      have k56 : Try.prog.cellsOf 56 = 16 := by kernel_rfl
      simp [k3, k56] at h0 h1 h2
      obtain ⟨v0, e0, _⟩ := DataW.trod_int Try.underlying3 h0
      obtain ⟨v1, e1, _⟩ := DataW.trod_int Try.underlying3 h1
      obtain ⟨v2, e2, z2⟩ := shape56 h2 rfl
      simp [acl, rpl, cll] at e0 e1 e2
      refine ⟨⟨v0, v1, v2.1, v2.2.1, v2.2.2.1, v2.2.2.2⟩, ?_, z2⟩
      simp [rpl, e0, e1, e2]
set_option maxRecDepth 100000 in
theorem shape36 {H : Type} {enc : TypeId × Value → H} {W : World} {n : Nat} {r : List Value} {y : DataW H × List MemPlace} (h : DataW.trod enc Try.prog W 0 (fun _ => true) true n 36 r = some y) (hr : r.length = 18) : ∃ c : Cl, r = cll c := by
  obtain ⟨xs, n', _, hx, _, hlen, hg⟩ := DataW.trod_struct Try.underlying36 h
  match r, hr with
  | [c0, c1, c2, c3, c4, c5, c6, c7, c8, c9, c10, c11, c12, c13, c14, c15, c16, c17], _ =>
    match xs, hlen with
    | [y0, y1, y2, y3, y4, y5, y6, y7, y8, y9, y10, y11, y12], _ =>
      have h0 := hg 0 _ rfl
      have h1 := hg 1 _ rfl
      have h2 := hg 2 _ rfl
      have h3 := hg 3 _ rfl
      have h4 := hg 4 _ rfl
      have h5 := hg 5 _ rfl
      have h6 := hg 6 _ rfl
      have h7 := hg 7 _ rfl
      have h8 := hg 8 _ rfl
      have h9 := hg 9 _ rfl
      have h10 := hg 10 _ rfl
      have h11 := hg 11 _ rfl
      have h12 := hg 12 _ rfl
      have k3 : Try.prog.cellsOf 3 = 1 := by kernel_rfl
      have k4 : Try.prog.cellsOf 4 = 1 := by kernel_rfl
      have k9 : Try.prog.cellsOf 9 = 1 := by kernel_rfl
      have k32 : Try.prog.cellsOf 32 = 2 := by kernel_rfl
      have k34 : Try.prog.cellsOf 34 = 4 := by kernel_rfl
      simp [k3, k4, k9, k32, k34] at h0 h1 h2 h3 h4 h5 h6 h7 h8 h9 h10 h11 h12
      obtain ⟨v0, e0, _⟩ := DataW.trod_int Try.underlying3 h0
      obtain ⟨v1, e1, _⟩ := DataW.trod_int Try.underlying3 h1
      obtain ⟨v2, e2, _⟩ := DataW.trod_int Try.underlying3 h2
      obtain ⟨v3, w3, e3⟩ := shape32 h3 rfl
      obtain ⟨v4, w4, e4⟩ := shape32 h4 rfl
      obtain ⟨v5, e5, _⟩ := DataW.trod_string Try.underlying9 h5
      obtain ⟨v6, e6, _⟩ := DataW.trod_string Try.underlying9 h6
      obtain ⟨v7, w7, u7, t7, e7⟩ := shape34 h7 rfl
      obtain ⟨v8, e8, _⟩ := DataW.trod_bool Try.underlying4 h8
      obtain ⟨v9, e9, _⟩ := DataW.trod_int Try.underlying3 h9
      obtain ⟨v10, e10, _⟩ := DataW.trod_int Try.underlying3 h10
      obtain ⟨v11, e11, _⟩ := DataW.trod_int Try.underlying3 h11
      obtain ⟨v12, e12, _⟩ := DataW.trod_string Try.underlying9 h12
      simp [acl, rpl, cll] at e0 e1 e2 e3 e4 e5 e6 e7 e8 e9 e10 e11 e12
      refine ⟨⟨v0, v1, v2, v3, w3, v4, w4, v5, v6, v7, w7, u7, t7, v8, v9, v10, v11, v12⟩, ?_⟩
      simp [cll, e0, e1, e2, e3, e4, e5, e6, e7, e8, e9, e10, e11, e12]
structure Op21 where
  kd : Int
  n : Int
  c : Cl
  r : Rp
def opl (o : Op21) : List Value := [.int .i64 o.kd, .int .i64 o.n] ++ cll o.c ++ rpl o.r
set_option maxRecDepth 100000 in
theorem shape60 {H : Type} {enc : TypeId × Value → H} {W : World} {n : Nat} {r : List Value} {y : DataW H × List MemPlace} (h : DataW.trod enc Try.prog W 0 (fun _ => true) true n 60 r = some y) (hr : r.length = 38) : ∃ o : Op21, r = opl o ∧ Strs W o.r.a := by
  obtain ⟨xs, n', _, hx, _, hlen, hg⟩ := DataW.trod_struct Try.underlying60 h
  match r, hr with
  | c0 :: c1 :: rest, hr =>
    match xs, hlen with
    | [y0, y1, y2, y3], _ =>
      have h0 := hg 0 _ rfl
      have h1 := hg 1 _ rfl
      have h2 := hg 2 _ rfl
      have h3 := hg 3 _ rfl
      have k3 : Try.prog.cellsOf 3 = 1 := by kernel_rfl
      have k36 : Try.prog.cellsOf 36 = 18 := by kernel_rfl
      have k58 : Try.prog.cellsOf 58 = 18 := by kernel_rfl
      have hrest : rest.length = 36 := by simpa using hr
      simp [k3, k36, k58] at h0 h1 h2 h3
      obtain ⟨v0, e0, _⟩ := DataW.trod_int Try.underlying3 h0
      obtain ⟨v1, e1, _⟩ := DataW.trod_int Try.underlying3 h1
      obtain ⟨v2, e2⟩ := shape36 h2 (by simp [hrest])
      obtain ⟨v3, e3, z3⟩ := shape58 h3 (by simp [hrest])
      refine ⟨⟨v0, v1, v2, v3⟩, ?_, z3⟩
      have hsp : rest = rest.take 18 ++ (rest.drop 18).take 18 := by
        rw [List.take_of_length_le (l := rest.drop 18) (by simp [hrest]), List.take_append_drop]
      simp at e0 e1
      rw [e0, e1, hsp, e2, e3]
      rfl
end Go.Proofs.Ytlkilkndjfcejaa
