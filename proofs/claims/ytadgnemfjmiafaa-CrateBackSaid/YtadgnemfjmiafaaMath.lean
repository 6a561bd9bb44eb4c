namespace Tally

def P : BitVec 32 := 0x82f63b78#32

/-- one step of a number. -/
def st (c : BitVec 32) : BitVec 32 := (c >>> 1) ^^^ (if c[0] then P else 0#32)

theorem xor_left_comm (a b c : BitVec 32) : a ^^^ (b ^^^ c) = b ^^^ (a ^^^ c) := by
  rw [← BitVec.xor_assoc, BitVec.xor_comm a b, BitVec.xor_assoc]
theorem xor_cancel (a b : BitVec 32) : a ^^^ (a ^^^ b) = b := by
  rw [← BitVec.xor_assoc, BitVec.xor_self, BitVec.zero_xor]

theorem st_xor (a b : BitVec 32) : st (a ^^^ b) = st a ^^^ st b := by
  unfold st
  rw [BitVec.getElem_xor, BitVec.ushiftRight_xor_distrib]
  cases a[0] <;> cases b[0] <;> simp [BitVec.xor_assoc, BitVec.xor_comm, xor_left_comm, xor_cancel]

def tab (c : BitVec 32) : BitVec 32 :=
  match (c &&& 15#32).toNat with
  | 0 => 0x00000000#32 | 1 => 0x105ec76f#32 | 2 => 0x20bd8ede#32 | 3 => 0x30e349b1#32
  | 4 => 0x417b1dbc#32 | 5 => 0x5125dad3#32 | 6 => 0x61c69362#32 | 7 => 0x7198540d#32
  | 8 => 0x82f63b78#32 | 9 => 0x92a8fc17#32 | 10 => 0xa24bb5a6#32 | 11 => 0xb21572c9#32
  | 12 => 0xc38d26c4#32 | 13 => 0xd3d3e1ab#32 | 14 => 0xe330a81a#32 | _ => 0xf36e6f75#32

def q4 (c : BitVec 32) : BitVec 32 := (c >>> 4) ^^^ tab c

theorem st_even (c : BitVec 32) (h : c[0] = false) : st c = c >>> 1 := by
  unfold st; rw [h]; simp

theorem st_shl (y : BitVec 32) (n : Nat) (_hn : n < 32) : st ((y >>> (n+1)) <<< (n+1)) = (y >>> (n+1)) <<< n := by
  rw [st_even _ (by simp)]
  ext i hi
  simp
  by_cases h : i < n
  · simp [h]; omega
  · simp [h]; 
    by_cases h' : 1 + i < 32
    · simp [h', show ¬ (1 + i < n + 1) by omega, show n + 1 + (1 + i - (n+1)) = n + 1 + (i - n) by omega]
    · simp [h']
      exact BitVec.getLsbD_of_ge _ _ (by omega)

theorem split4 (c : BitVec 32) : (c >>> 4 <<< 4) ^^^ (c &&& 15#32) = c := by
  have key : ∀ i : Nat, i < 32 → (15#32).getLsbD i = decide (i < 4) := by decide
  ext i hi
  have k := key i hi
  rw [BitVec.getLsbD_eq_getElem hi] at k
  rw [BitVec.getElem_xor, BitVec.getElem_and, k]
  simp
  by_cases h : i < 4
  · simp [h]
  · simp [h, show 4 + (i - 4) = i by omega, hi]

theorem tab_low : ∀ k : Fin 16, st (st (st (st (BitVec.ofNat 32 k.val)))) = tab (BitVec.ofNat 32 k.val) := by decide
theorem tab_and (c : BitVec 32) : tab (c &&& 15#32) = tab c := by
  unfold tab; rw [BitVec.and_assoc]; rfl
theorem and_small (c : BitVec 32) : (c &&& 15#32).toNat < 16 := by
  rw [BitVec.toNat_and]
  exact Nat.and_lt_two_pow (n := 4) _ (by decide)

theorem q4_eq (c : BitVec 32) : q4 c = st (st (st (st c))) := by
  have e := split4 c
  have h : st (st (st (st ((c >>> 4 <<< 4) ^^^ (c &&& 15#32))))) = q4 c := by
    rw [st_xor, st_xor, st_xor, st_xor]
    unfold q4
    congr 1
    · rw [st_shl c 3 (by omega)]
      rw [show c >>> (3+1) <<< 3 = (c >>> 1) >>> (2+1) <<< (2+1) by simp only [← BitVec.shiftRight_add]]
      rw [st_shl _ 2 (by omega)]
      rw [show (c >>> 1) >>> (2+1) <<< 2 = (c >>> 1 >>> 1) >>> (1+1) <<< (1+1) by simp only [← BitVec.shiftRight_add]]
      rw [st_shl _ 1 (by omega)]
      rw [show (c >>> 1 >>> 1) >>> (1+1) <<< 1 = (c >>> 1 >>> 1 >>> 1) >>> (0+1) <<< (0+1) by simp only [← BitVec.shiftRight_add]]
      rw [st_shl _ 0 (by omega)]
      simp [← BitVec.shiftRight_add]
    · have hb := and_small c
      have := tab_low ⟨(c &&& 15#32).toNat, hb⟩
      simp only [BitVec.ofNat_toNat, BitVec.setWidth_eq] at this
      rw [this, tab_and]
  rw [e] at h
  exact h.symm

/-- n steps. -/
def stn : Nat → BitVec 32 → BitVec 32
  | 0, c => c
  | n + 1, c => stn n (st c)

theorem stn_xor (n : Nat) : ∀ a b, stn n (a ^^^ b) = stn n a ^^^ stn n b := by
  induction n with
  | zero => intro a b; rfl
  | succ n ih => intro a b; simp only [stn]; rw [st_xor, ih]
theorem stn_add (m n : Nat) : ∀ c, stn (m + n) c = stn n (stn m c) := by
  induction m with
  | zero => intro c; simp [stn]
  | succ m ih => intro c; rw [show m + 1 + n = (m + n) + 1 by omega]; simp only [stn]; rw [ih]
theorem stn_succ (n : Nat) (c : BitVec 32) : stn (n + 1) c = st (stn n c) := by
  rw [stn_add]; rfl

theorem st_inj0 (c : BitVec 32) (h : st c = 0#32) : c = 0#32 := by
  unfold st at h
  cases h0 : c[0]
  · rw [h0] at h
    simp only [Bool.false_eq_true, if_false, BitVec.xor_zero] at h
    ext i hi
    by_cases hz : i = 0
    · subst hz; simpa using h0
    · have := congrArg (fun (x : BitVec 32) => x.getLsbD (i - 1)) h
      simp at this
      rw [show 1 + (i - 1) = i by omega, BitVec.getLsbD_eq_getElem hi] at this
      simpa using this
  · rw [h0] at h
    have := congrArg (fun (x : BitVec 32) => x.getLsbD 31) h
    simp [P] at this
theorem stn_inj0 (n : Nat) : ∀ c, stn n c = 0#32 → c = 0#32 := by
  induction n with
  | zero => intro c h; exact h
  | succ n ih => intro c h; exact st_inj0 _ (ih _ h)

/-- eight steps. -/
def by8 (c : BitVec 32) : BitVec 32 := stn 8 c
theorem q4_q4 (c : BitVec 32) : q4 (q4 c) = by8 c := by rw [q4_eq, q4_eq]; rfl
/-- a byte more. -/
def put (c : BitVec 32) (x : Int) : BitVec 32 := by8 (c ^^^ BitVec.ofInt 32 x)
def run (c : BitVec 32) (l : List Int) : BitVec 32 := l.foldl put c
def more (c : BitVec 32) (l : List Int) : BitVec 32 := ~~~ run (~~~ c) l
def sum (l : List Int) : BitVec 32 := more 0#32 l

theorem run_append (c : BitVec 32) (a b : List Int) : run c (a ++ b) = run (run c a) b := by
  unfold run; rw [List.foldl_append]
theorem run_snoc (c : BitVec 32) (a : List Int) (x : Int) : run c (a ++ [x]) = put (run c a) x := by
  rw [run_append]; rfl
theorem more_append (c : BitVec 32) (a b : List Int) : more c (a ++ b) = more (more c a) b := by
  unfold more; rw [run_append, BitVec.not_not]
theorem run_xor (l : List Int) : ∀ c d, run (c ^^^ d) l = run c l ^^^ stn (8 * l.length) d := by
  induction l with
  | nil => intro c d; rfl
  | cons x l ih =>
    intro c d
    show run (put (c ^^^ d) x) l = run (put c x) l ^^^ _
    rw [show put (c ^^^ d) x = put c x ^^^ stn 8 d by
      unfold put by8; rw [← stn_xor]; congr 1; rw [BitVec.xor_assoc, BitVec.xor_comm d, ← BitVec.xor_assoc]]
    rw [ih, ← stn_add]
    congr 2
    simp only [List.length_cons]; omega
theorem run_zeros (n : Nat) : ∀ c, run c (List.replicate n 0) = stn (8 * n) c := by
  induction n with
  | zero => intro c; rfl
  | succ n ih =>
    intro c
    rw [List.replicate_succ]
    show run (put c 0) _ = _
    rw [ih, show 8 * (n + 1) = 8 + 8 * n by omega, stn_add]
    congr 1
    unfold put by8; simp

/-- the xor of three. -/
theorem xor_three (a b c d e f : BitVec 32) : (a ^^^ d) ^^^ (b ^^^ e) ^^^ (c ^^^ f) = (a ^^^ b ^^^ c) ^^^ (d ^^^ e ^^^ f) := by
  simp [BitVec.xor_assoc, BitVec.xor_comm, xor_left_comm]
theorem put_xor (a b c : BitVec 32) (x y z w : Int) (h : BitVec.ofInt 32 w = BitVec.ofInt 32 x ^^^ BitVec.ofInt 32 y ^^^ BitVec.ofInt 32 z) :
    put (a ^^^ b ^^^ c) w = put a x ^^^ put b y ^^^ put c z := by
  unfold put by8
  rw [h, ← stn_xor, ← stn_xor, xor_three]
theorem not_xor3 (a b c : BitVec 32) : ~~~(a ^^^ b ^^^ c) = ~~~a ^^^ ~~~b ^^^ ~~~c := by
  ext i hi
  simp

/-! ### a bit that is turned -/
theorem st_one (i : Nat) (h : i < 31) : st (1#32 <<< (i + 1)) = 1#32 <<< i := by
  rw [st_even _ (by simp)]
  ext k hk
  simp
  by_cases h1 : k < i
  · simp [h1]; omega
  · have e1 : ¬ (k < i) := h1
    rw [Bool.eq_iff_iff]
    simp
    omega
theorem stn_one (m : Nat) : ∀ i, m ≤ i → i < 32 → stn m (1#32 <<< i) = 1#32 <<< (i - m) := by
  induction m with
  | zero => intro i _ _; rfl
  | succ m ih =>
    intro i h1 h2
    obtain ⟨j, rfl⟩ : ∃ j, i = j + 1 := ⟨i - 1, by omega⟩
    show stn m (st _) = _
    rw [st_one j (by omega), ih j (by omega) (by omega)]
    congr 1; omega

/-- which of the first m bits of a turn stand. -/
def low (turn : BitVec 32) : Nat → BitVec 32
  | 0 => 0#32
  | m + 1 => low turn m ^^^ (if turn.getLsbD m then 1#32 <<< m else 0#32)
theorem low_bit (turn : BitVec 32) (m : Nat) (hm : m ≤ 32) : ∀ i, i < 32 → (low turn m).getLsbD i = (decide (i < m) && turn.getLsbD i) := by
  induction m with
  | zero => intro i _; simp [low]
  | succ m ih =>
    intro i hi
    rw [low, BitVec.getLsbD_xor, ih (by omega) i hi]
    by_cases e : i = m
    · subst e
      cases turn.getLsbD i <;> simp [hi]
    · have e1 : (if turn.getLsbD m then 1#32 <<< m else 0#32).getLsbD i = false := by
        split
        · simp; omega
        · simp
      rw [e1, Bool.xor_false]
      congr 1
      simp; omega
theorem low_ne (turn : BitVec 32) (m k : Nat) (hm : m ≤ 32) (hk : k < m) (h : turn.getLsbD k = true) : low turn m ≠ 0#32 := by
  intro h0
  have := low_bit turn m hm k (by omega)
  rw [h0, h] at this
  simp at this
  omega

/-- what the turned bits of a text do to its sum: the first m of a window, of which 'rest' bits stand behind. -/
theorem window (turn : BitVec 32) (total : Nat) : ∀ m, m ≤ 32 → m ≤ total →
    ∀ D : Nat → BitVec 32, D 0 = 0#32 → (∀ i, i < m → D (i + 1) = D i ^^^ (if turn.getLsbD i then stn (total - i) 1#32 else 0#32)) →
    D m = stn total (low turn m) := by
  intro m
  induction m with
  | zero => intro _ _ D h0 _; rw [h0, low]; 
            have : stn total 0#32 = stn total (0#32 ^^^ 0#32) := by simp
            rw [stn_xor, BitVec.xor_self] at this
            exact this.symm
  | succ m ih =>
    intro h32 ht D h0 hs
    rw [hs m (by omega), ih (by omega) (by omega) D h0 (fun i hi => hs i (by omega)), low, stn_xor]
    congr 1
    split
    · have := stn_one m m (by omega) (by omega)
      rw [show total = m + (total - m) by omega, stn_add, this]
      simp
    · have : stn total 0#32 = stn total (0#32 ^^^ 0#32) := by simp
      rw [stn_xor, BitVec.xor_self] at this
      exact this.symm

theorem ofInt_xor (x y : Int) (z : Int) (hx : 0 ≤ x) (hy : 0 ≤ y) (hz : z = ((x.toNat ^^^ y.toNat : Nat) : Int)) :
    BitVec.ofInt 32 z = BitVec.ofInt 32 x ^^^ BitVec.ofInt 32 y := by
  subst hz
  obtain ⟨a, rfl⟩ := Int.eq_ofNat_of_zero_le hx
  obtain ⟨b, rfl⟩ := Int.eq_ofNat_of_zero_le hy
  simp only [BitVec.ofInt_natCast, Int.toNat_natCast]
  rw [← BitVec.ofNat_xor]

/-- a bit of a text is turned: bit t of byte j. -/
theorem run_turn (c : BitVec 32) (l : List Int) (j t : Nat) (hj : j < l.length) (ht : t < 8) (h0 : 0 ≤ l.getD j 0) :
    run c (l.set j (((l.getD j 0).toNat ^^^ (2 ^ t) : Nat) : Int)) = run c l ^^^ stn (8 * l.length - (8 * j + t)) 1#32 := by
  have e : l = l.take j ++ l.getD j 0 :: l.drop (j + 1) := by
    rw [show l.getD j 0 = l[j] by simp [hj]]
    simp
  have e2 : l.set j (((l.getD j 0).toNat ^^^ (2 ^ t) : Nat) : Int) = l.take j ++ (((l.getD j 0).toNat ^^^ (2 ^ t) : Nat) : Int) :: l.drop (j + 1) := by
    rw [List.set_eq_take_append_cons_drop, if_pos hj]
  rw [e2]
  conv => rhs; rw [e]
  rw [run_append, run_append]
  generalize run c (List.take j l) = c1
  show run (put c1 _) _ = run (put c1 _) _ ^^^ _
  have hb : BitVec.ofInt 32 (((l.getD j 0).toNat ^^^ (2 ^ t) : Nat) : Int) = BitVec.ofInt 32 (l.getD j 0) ^^^ (1#32 <<< t) := by
    rw [ofInt_xor (l.getD j 0) ((2 ^ t : Nat) : Int) _ h0 (Int.natCast_nonneg _) (by rw [Int.toNat_natCast])]
    congr 1
    rw [BitVec.ofInt_natCast]
    apply BitVec.eq_of_toNat_eq
    rw [BitVec.toNat_ofNat, BitVec.toNat_shiftLeft, Nat.shiftLeft_eq]
    simp
  have : put c1 (((l.getD j 0).toNat ^^^ (2 ^ t) : Nat) : Int) = put c1 (l.getD j 0) ^^^ stn (8 - t) 1#32 := by
    unfold put by8
    rw [hb, ← BitVec.xor_assoc, stn_xor]
    congr 1
    rw [show 8 = t + (8 - t) by omega, stn_add, stn_one t t (by omega) (by omega)]
    simp
  rw [this, run_xor, ← stn_add]
  congr 2
  simp
  omega

/-! ### linear maps as rows -/
def comb (g : Nat → BitVec 32) (c : BitVec 32) : Nat → BitVec 32
  | 0 => 0#32
  | k + 1 => comb g c k ^^^ (if c.getLsbD k then g k else 0#32)

theorem low_full (c : BitVec 32) : low c 32 = c := by
  ext i hi
  have := low_bit c 32 (by omega) i hi
  simpa [hi] using this
theorem comb_low (f : BitVec 32 → BitVec 32) (hf : ∀ a b, f (a ^^^ b) = f a ^^^ f b) (c : BitVec 32) (k : Nat) :
    comb (fun i => f (1#32 <<< i)) c k = f (low c k) := by
  have f0 : f 0#32 = 0#32 := by
    have := hf 0#32 0#32
    simp at this
    have e := congrArg (fun x => x ^^^ f 0#32) this
    simpa using e.symm
  induction k with
  | zero => simp [comb, low, f0]
  | succ k ih =>
    rw [comb, low, hf, ih]
    congr 1
    split <;> simp [f0]
theorem comb_lin (f : BitVec 32 → BitVec 32) (hf : ∀ a b, f (a ^^^ b) = f a ^^^ f b) (c : BitVec 32) :
    comb (fun i => f (1#32 <<< i)) c 32 = f c := by
  rw [comb_low f hf, low_full]

end Tally
