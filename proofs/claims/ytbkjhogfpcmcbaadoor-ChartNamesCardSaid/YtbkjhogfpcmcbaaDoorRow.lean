/-
  Rows of a call's own whose elements have several cells: append (and where the new row lies), append within the row, clear. Conditions: none (plain lemmas over any program).
-/
import Derived.Test.YtbkjhogfpcmcbaaDoorOwn
import Derived.Test.YtbkjhogfpcmcbaaDoorTouch
import Derived.Maps.AppendAt
import Derived.Lib.Hide
namespace Go.Proofs.YtbkjhogfpcmcbaaDoor
open Go Go.RowKit
variable {P : Program}

theorem own_shape {w : World} {base e size : Nat} {v : Value} {n : Nat} {xs : List Value} (h : w.ownsRow base e size v n xs) : ∃ ad c, v = .slice ad n c ∧ n ≤ c := by
  rcases h.2 with ⟨rfl, rfl⟩ | ⟨g, cap, cur, rfl, _, _, hc, _⟩
  · exact ⟨none, 0, rfl, Nat.le_refl _⟩
  · exact ⟨_, _, rfl, hc⟩
/-- a row and a box of another element type. -/
theorem own_box_ne {w : World} {base e size n b : Nat} {v : Value} {xs : List Value} {T : TypeId} {cs : Array Value} (h : w.ownsRow base e size v n xs) (hb : Box w b T cs) (hne : e ≠ T) : v.ownBlock ≠ some b := by
  rcases h.2 with ⟨rfl, _⟩ | ⟨g, cap, cur, rfl, _, hg, _⟩
  · simp [Value.ownBlock]
  · intro he
    obtain rfl : g = b := by simpa [Value.ownBlock] using he
    unfold Box at hb
    rw [hg] at hb
    injection hb with hb
    injection hb with _ ht
    exact hne ht
theorem box_ne {w : World} {b b' : Nat} {T T' : TypeId} {cs cs' : Array Value} (h : Box w b T cs) (h' : Box w b' T' cs') (hne : T ≠ T') : b ≠ b' := by
  rintro rfl
  unfold Box at h h'
  rw [h] at h'
  injection h' with h'
  injection h' with _ ht
  exact hne ht
theorem own_map_ne {w : World} {base e size n m : Nat} {v : Value} {xs : List Value} {es : Array MapEntry} {c : Nat} (h : w.ownsRow base e size v n xs) (hm : w.heap[m]? = some (.map es c)) : v.ownBlock ≠ some m := by
  rcases h.2 with ⟨rfl, _⟩ | ⟨g, cap, cur, rfl, _, hg, _⟩
  · simp [Value.ownBlock]
  · intro he
    obtain rfl : g = m := by simpa [Value.ownBlock] using he
    rw [hg] at hm
    cases hm
theorem box_map_ne {w : World} {b m : Nat} {T : TypeId} {cs : Array Value} {es : Array MapEntry} {c : Nat} (h : Box w b T cs) (hm : w.heap[m]? = some (.map es c)) : b ≠ m := by
  rintro rfl
  unfold Box at h
  rw [hm] at h
  cases h

theorem wp_append_at {w : World} {o : Oper} {a : Act} {K : Act → World → Prop} {Q : Exit → Act → World → Prop} (s x : Operand) (t : TypeId)
    (ho : o.op = .call { callee := .builtin .append, args := #[s, x], argTypes := #[t, t] })
    (base : Nat) (e : TypeId) (i : TypeInfo) (z : Value) (size bytes : Nat) (ht : P.underlying t = some (.slice e)) (hi : P.info? e = some i) (hz : i.zero = some z)
    (hsize : i.size = size) (hby : i.bytes = bytes) (hzs : z.cells.size = size) (hsz : 0 < size)
    (v : Value) (n : Nat) (xs : List Value) (hs : a.eval s = v) (hown : w.ownsRow base e size v n xs)
    (ad : Option Addr) (m c : Nat) (news : List Value) (hx : a.eval x = .slice ad m c) (hsrc : Src w ad m size news)
    (h63 : n + m ≤ maxLen) (hbytes : (n + m) * bytes ≤ 140737488355328) (hbase : base ≤ w.heap.size)
    (h : ∀ v' w', w'.ownsRow base e size v' (n + m) (xs ++ news) → w.grownBy w' v.ownBlock → (v'.ownBlock = v.ownBlock ∨ v'.ownBlock = some w.heap.size) → K (a.put o.dst v') w') : o.wp P a w K Q := by
  obtain ⟨hl, h1, hc⟩ := hsrc
  by_cases h0 : m = 0
  · subst h0
    have hn : news = [] := by simpa using hl
    subst hn
    have hr := run_append_zero (P := P) base t o.type e i size ht hi v n xs hown ad c
    unfold Oper.wp execOp
    simp only [ho, resolve, invoke, builtin, Sem.run_bind, Sem.run_pure, Result.andThen_ok, List.map_toArray, List.map_cons, List.map_nil, hs, hx, hr]
    exact h v w (by simpa using hown) ⟨rfl, rfl, rfl, Nat.le_refl _, fun _ _ _ => rfl⟩ (.inl rfl)
  · obtain ⟨y, rfl, hc'⟩ := hc.resolve_left h0
    obtain ⟨v', w', hr, h2, h3, _, h5⟩ := run_append_own_at (P := P) w base t o.type e i z size bytes ht hi hz hsize hby hzs hsz v n xs hown y m c news hl hc' h1 h63 hbytes hbase
    unfold Oper.wp execOp
    simp only [ho, resolve, invoke, builtin, Sem.run_bind, Sem.run_pure, Result.andThen_ok, List.map_toArray, List.map_cons, List.map_nil, hs, hx, hr]
    exact h v' w' h2 h3 h5

theorem wpList_append_at {w : World} {ops : Array Oper} {rest : List Oper} {o : Oper} {a : Act} {Q : Exit → Act → World → Prop} (hgd : Region.wanted o (yielded ops a.tmps) = true) (s x : Operand) (t : TypeId)
    (ho : o.op = .call { callee := .builtin .append, args := #[s, x], argTypes := #[t, t] })
    (base : Nat) (e : TypeId) (i : TypeInfo) (z : Value) (size bytes : Nat) (ht : P.underlying t = some (.slice e)) (hi : P.info? e = some i) (hz : i.zero = some z)
    (hsize : i.size = size) (hby : i.bytes = bytes) (hzs : z.cells.size = size) (hsz : 0 < size)
    (v : Value) (n : Nat) (xs : List Value) (hs : a.eval s = v) (hown : w.ownsRow base e size v n xs)
    (ad : Option Addr) (m c : Nat) (news : List Value) (hx : a.eval x = .slice ad m c) (hsrc : Src w ad m size news)
    (h63 : n + m ≤ maxLen) (hbytes : (n + m) * bytes ≤ 140737488355328) (hbase : base ≤ w.heap.size)
    (h : ∀ v' w', w'.ownsRow base e size v' (n + m) (xs ++ news) → w.grownBy w' v.ownBlock → (v'.ownBlock = v.ownBlock ∨ v'.ownBlock = some w.heap.size) → wpList P ops Q rest (a.put o.dst v') w') : wpList P ops Q (o :: rest) a w :=
  BigFrame.wpList_want hgd fun _ hK => wp_append_at s x t ho base e i z size bytes ht hi hz hsize hby hzs hsz v n xs hs hown ad m c news hx hsrc h63 hbytes hbase fun v' w' h2 h3 h4 => hK _ _ (h v' w' h2 h3 h4)

/-- append within a row: there is room. -/
theorem wpList_append_in {w : World} {ops : Array Oper} {rest : List Oper} {o : Oper} {a : Act} {Q : Exit → Act → World → Prop} (hgd : Region.wanted o (yielded ops a.tmps) = true) (s x : Operand) (t : TypeId)
    (ho : o.op = .call { callee := .builtin .append, args := #[s, x], argTypes := #[t, t] })
    (e : TypeId) (i : TypeInfo) (size : Nat) (ht : P.underlying t = some (.slice e)) (hi : P.info? e = some i) (hsize : i.size = size)
    (g sLen sCap : Nat) (cur : Array Value) (hg : w.heap[g]? = some (.cells cur e (0, 0))) (hs : a.eval s = .slice (some ⟨g, 0, none⟩) sLen sCap)
    (ad : Addr) (m c : Nat) (news : List Value) (hx : a.eval x = .slice (some ad) m c) (hl : news.length = m * size) (hnews : ∀ j u, news[j]? = some u → w.cell? (ad.add j) = some u) (h1 : ∀ u ∈ news, u.oneCell' = true)
    (hroom : sLen + m ≤ sCap) (hfit : sLen * size + news.length ≤ cur.size)
    (h : ∀ new : Array Value, Hid (new.size = cur.size ∧ new.toList.take (sLen * size + news.length) = cur.toList.take (sLen * size) ++ news) → wpList P ops Q rest (a.put o.dst (.slice (some ⟨g, 0, none⟩) (sLen + m) sCap)) (w.setRow g new)) : wpList P ops Q (o :: rest) a w := by
  refine BigFrame.wpList_want hgd fun K hK => ?_
  subst hsize
  have hlt : (cur.toList.take (sLen * i.size)).length = sLen * i.size := by rw [List.length_take, Array.length_toList]; omega
  have hinfo : Hid ((cur.toList.take (sLen * i.size) ++ news ++ cur.toList.drop (sLen * i.size + news.length)).toArray.size = cur.size ∧
      (cur.toList.take (sLen * i.size) ++ news ++ cur.toList.drop (sLen * i.size + news.length)).toArray.toList.take (sLen * i.size + news.length) = cur.toList.take (sLen * i.size) ++ news) := by
    refine ⟨?_, ?_⟩
    · simp only [List.size_toArray, List.length_append, hlt, List.length_drop, Array.length_toList]; omega
    · rw [List.take_left' (by rw [List.length_append, hlt])]
  have hr := run_append_room (P := P) w t o.type e i ht hi g sLen sCap cur hg ad m c news hl hnews h1 hroom hfit
  unfold Oper.wp execOp
  simp only [ho, resolve, invoke, builtin, Sem.run_bind, Sem.run_pure, Result.andThen_ok, List.map_toArray, List.map_cons, List.map_nil, hs, hx, hr]
  exact hK _ _ (h _ hinfo)

theorem run_clear_row {w : World} (t ty e : TypeId) (i : TypeInfo) (z : Value) (ht : P.underlying t = some (.slice e)) (hi : P.info? e = some i) (hz : i.zero = some z) (hz1 : ∀ u ∈ z.cells.toList, u.oneCell' = true) (hz0 : 0 < z.cells.size)
    (g off n c : Nat) (cur : Array Value) (hg : w.heap[g]? = some (.cells cur e (0, 0))) (hfit : off + n * z.cells.size ≤ cur.size) :
    (Builtin.clear_ #[t] ty #[.slice (some ⟨g, off, none⟩) n c]).run P w =
      .ok (.tuple #[]) (w.setRow g (cur.toList.take off ++ (Builtin.zeroCells z.cells n).toList ++ cur.toList.drop (off + n * z.cells.size)).toArray) := by
  have hlen : (Builtin.zeroCells z.cells n).toList.length = n * z.cells.size := by simp [Builtin.zeroCells]
  have h1 : ∀ u ∈ (Builtin.zeroCells z.cells n).toList, u.oneCell' = true := by
    intro u hu
    simp only [Builtin.zeroCells, Array.mem_toList_iff, Array.mem_map, Array.mem_range] at hu
    obtain ⟨k, _, rfl⟩ := hu
    have hk : k % z.cells.size < z.cells.size := Nat.mod_lt _ hz0
    rw [getElem!_pos z.cells _ hk]
    exact hz1 _ (by simp)
  by_cases h0 : n = 0
  · subst h0
    have e0 : (Builtin.zeroCells z.cells 0).toList = [] := by simp [Builtin.zeroCells]
    rw [e0]
    simp only [List.append_nil, Nat.zero_mul, Nat.add_zero, List.take_append_drop, Array.toArray_toList]
    rw [setRow_self w g cur e (0, 0) hg]
    simp [Builtin.clear_, run_underlying ht]
  · have hst := run_storeCells_at P g off e (Builtin.zeroCells z.cells n).toList 0 cur w hg (by rw [hlen]; simpa using hfit) h1
    simp only [Nat.add_zero, hlen] at hst
    obtain ⟨k, rfl⟩ : ∃ k, n = k + 1 := ⟨n - 1, by omega⟩
    simp [Builtin.clear_, run_underlying ht, zeroValue, typeInfo, hi, hz, hst, Result.andThen]
theorem wpList_clear_row {w : World} {ops : Array Oper} {rest : List Oper} {o : Oper} {a : Act} {Q : Exit → Act → World → Prop} (hgd : Region.wanted o (yielded ops a.tmps) = true) (x : Operand) (t : TypeId)
    (ho : o.op = .call { callee := .builtin .clear, args := #[x], argTypes := #[t] })
    (e : TypeId) (i : TypeInfo) (z : Value) (ht : P.underlying t = some (.slice e)) (hi : P.info? e = some i) (hz : i.zero = some z) (hz1 : ∀ u ∈ z.cells.toList, u.oneCell' = true) (size : Nat) (hz0 : 0 < size) (hzs : z.cells.size = size)
    (g off n c : Nat) (cur : Array Value) (hg : w.heap[g]? = some (.cells cur e (0, 0))) (hx : a.eval x = .slice (some ⟨g, off, none⟩) n c) (hfit : off + n * size ≤ cur.size)
    (h : ∀ new : Array Value, Hid (new.size = cur.size ∧ new.toList.take off = cur.toList.take off) → wpList P ops Q rest (a.put o.dst (.tuple #[])) (w.setRow g new)) : wpList P ops Q (o :: rest) a w := by
  refine BigFrame.wpList_want hgd fun K hK => ?_
  subst hzs
  have hr := run_clear_row (P := P) t o.type e i z ht hi hz hz1 hz0 g off n c cur hg hfit
  have hlen : (Builtin.zeroCells z.cells n).toList.length = n * z.cells.size := by simp [Builtin.zeroCells]
  have hlt : (cur.toList.take off).length = off := by rw [List.length_take, Array.length_toList]; omega
  have hinfo : Hid ((cur.toList.take off ++ (Builtin.zeroCells z.cells n).toList ++ cur.toList.drop (off + n * z.cells.size)).toArray.size = cur.size ∧
      (cur.toList.take off ++ (Builtin.zeroCells z.cells n).toList ++ cur.toList.drop (off + n * z.cells.size)).toArray.toList.take off = cur.toList.take off) := by
    refine ⟨?_, ?_⟩
    · simp only [List.size_toArray, List.length_append, hlen, hlt, List.length_drop, Array.length_toList]; omega
    · rw [List.append_assoc, List.take_left' hlt]
  unfold Oper.wp execOp
  simp only [ho, resolve, invoke, builtin, Sem.run_bind, Sem.run_pure, Result.andThen_ok, List.map_toArray, List.map_cons, List.map_nil, hx, hr]
  exact hK _ _ (h _ hinfo)

section
variable {t : TypeId} {size : Nat} (ht : P.underlying t = some (.slice (P.elem t))) (hs : ∀ w, (sizeOf (P.elem t)).run P w = .ok size w) (g o len cap : Nat) (w : World)
include ht hs
theorem cut_l (k : Nat) (h : k ≤ len) : (Instr.sliceAt t (.slice (some ⟨g, o, none⟩) len cap) (some (.int .i64 (k : Int))) none none).run P w = .ok (.slice (some (if cap = k then ⟨g, o, none⟩ else ⟨g, o + k * size, none⟩)) (len - k) (cap - k)) w := by
  rw [run_sliceAt_slice w t _ _ _ _ ht, run_slice_l w t _ len cap ht .i64 k (by omega) (by omega), hs]
  simp only [Result.andThen, sliced, Int.toNat_natCast, Option.map_some, Addr.add_lit]
  split <;> rfl
theorem cut_h (k : Nat) (h : k ≤ cap) : (Instr.sliceAt t (.slice (some ⟨g, o, none⟩) len cap) none (some (.int .i64 (k : Int))) none).run P w = .ok (.slice (some ⟨g, o, none⟩) k cap) w := by
  rw [run_sliceAt_slice w t _ _ _ _ ht, run_slice_h w t _ len cap ht .i64 k (by omega) (by omega), hs]
  simp only [Result.andThen, sliced, Int.toNat_natCast, Option.map_some, Nat.zero_mul, Nat.sub_zero, Addr.add_zero']
  split <;> rfl
theorem cut_lh (l k : Nat) (hl : l ≤ k) (h : k ≤ cap) : (Instr.sliceAt t (.slice (some ⟨g, o, none⟩) len cap) (some (.int .i64 (l : Int))) (some (.int .i64 (k : Int))) none).run P w = .ok (.slice (some (if cap = l then ⟨g, o, none⟩ else ⟨g, o + l * size, none⟩)) (k - l) (cap - l)) w := by
  rw [run_sliceAt_slice w t _ _ _ _ ht, run_slice_lh w t _ len cap ht .i64 .i64 l k (by omega) (by omega) (by omega), hs]
  simp only [Result.andThen, sliced, Int.toNat_natCast, Option.map_some, Addr.add_lit]
  split <;> rfl
theorem cut_lhm (l k m : Nat) (hl : l ≤ k) (h : k ≤ m) (hm : m ≤ cap) : (Instr.sliceAt t (.slice (some ⟨g, o, none⟩) len cap) (some (.int .i64 (l : Int))) (some (.int .i64 (k : Int))) (some (.int .i64 (m : Int)))).run P w = .ok (.slice (some (if m = l then ⟨g, o, none⟩ else ⟨g, o + l * size, none⟩)) (k - l) (m - l)) w := by
  rw [run_sliceAt_slice w t _ _ _ _ ht, run_slice_lhm w t _ len cap ht .i64 .i64 .i64 l k m (by omega) (by omega) (by omega) (by omega), hs]
  simp only [Result.andThen, sliced, Int.toNat_natCast, Option.map_some, Addr.add_lit]
  split <;> rfl
theorem cut_hm (k m : Nat) (h : k ≤ m) (hm : m ≤ cap) : (Instr.sliceAt t (.slice (some ⟨g, o, none⟩) len cap) none (some (.int .i64 (k : Int))) (some (.int .i64 (m : Int)))).run P w = .ok (.slice (some ⟨g, o, none⟩) k m) w := by
  rw [run_sliceAt_slice w t _ _ _ _ ht, run_slice_hm w t _ len cap ht .i64 .i64 k m (by omega) (by omega) (by omega), hs]
  simp only [Result.andThen, sliced, Int.toNat_natCast, Option.map_some, Nat.zero_mul, Nat.sub_zero, Addr.add_zero']
  split <;> rfl
end

/-- a row of which the block was written anew. -/
theorem own_setRow {w : World} {base e size m cap g : Nat} {xs : List Value} {cur new : Array Value} (h : w.heap[g]? = some (.cells cur e (0, 0))) (hb : base ≤ g) (hm : m ≤ cap) (hc : cap ≤ maxLen) (hs : new.size = cap * size) (hx : xs.length = m * size)
    (ht : new.toList.take (m * size) = xs) : (w.setRow g new).ownsRow base e size (.slice (some ⟨g, 0, none⟩) m cap) m xs :=
  ⟨hx, .inr ⟨g, cap, new, rfl, hb, setRow_heap w g cur new e (0, 0) h, hm, hc, hs, ht⟩⟩
theorem grown_setRow {w0 w : World} {g : Nat} (h : w0.grownBy w (some g)) (new : Array Value) : w0.grownBy (w.setRow g new) (some g) :=
  ⟨h.os, h.tape, h.output, by simpa using h.size, fun k hk hne => (Go.setRow_other w g k new (fun e => hne (by rw [e]))).trans (h.block k hk hne)⟩
theorem grown_drew {w0 w : World} {r : Option Nat} (h : w0.grownBy w r) : w0.grownBy w.drew r := ⟨h.os, h.tape, h.output, h.size, h.block⟩
theorem grown_refl (w : World) (r : Option Nat) : w.grownBy w r := ⟨rfl, rfl, rfl, Nat.le_refl _, fun _ _ _ => rfl⟩
end Go.Proofs.YtbkjhogfpcmcbaaDoor
