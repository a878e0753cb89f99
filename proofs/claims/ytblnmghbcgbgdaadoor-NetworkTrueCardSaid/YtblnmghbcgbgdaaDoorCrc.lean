/-
  Plain mathematics of the table-driven sum of chapter 2 (no program in sight): the bit step is linear and injective; a byte's step by the table is eight bit steps; texts that differ within four neighbouring bytes have two sums.
  Conditions: none.
-/
namespace Go.Proofs.YtblnmghbcgbgdaaDoor.Crc

def bstep (x : BitVec 32) : BitVec 32 := (x >>> 1) ^^^ (2197175160#32 * (x &&& 1#32))
def iter : Nat → BitVec 32 → BitVec 32
  | 0, x => x
  | n+1, x => bstep (iter n x)
def tab (i : Nat) : BitVec 32 := iter 8 (BitVec.ofNat 32 i)
/-- One byte goes in. -/
def cstep (r : BitVec 32) (b : Nat) : BitVec 32 := (r >>> 8) ^^^ tab ((r.toNat % 256) ^^^ b)
def crcL (r : BitVec 32) (l : List UInt8) : BitVec 32 := l.foldl (fun r b => cstep r b.toNat) r
def ones : BitVec 32 := 4294967295#32
def crc (l : List UInt8) : BitVec 32 := crcL ones l ^^^ ones

theorem and_one (x : BitVec 32) : x &&& 1#32 = if x.getLsbD 0 then 1#32 else 0#32 := by
  rw [BitVec.and_one_eq_setWidth_ofBool_getLsbD]
  cases x.getLsbD 0 <;> rfl

theorem bstep_xor (x y : BitVec 32) : bstep (x ^^^ y) = bstep x ^^^ bstep y := by
  unfold bstep
  rw [BitVec.ushiftRight_xor_distrib, and_one, and_one, and_one, BitVec.getLsbD_xor]
  have e (a b c : BitVec 32) : a ^^^ c ^^^ (b ^^^ c) = a ^^^ b := by
    have : a ^^^ c ^^^ (b ^^^ c) = a ^^^ b ^^^ (c ^^^ c) := by ac_rfl
    rw [this, BitVec.xor_self, BitVec.xor_zero]
  cases x.getLsbD 0 <;> cases y.getLsbD 0
  · simp
  · simp; ac_rfl
  · simp; ac_rfl
  · simp [e]

theorem and_xor (x y z : BitVec 32) : x &&& (y ^^^ z) = (x &&& y) ^^^ (x &&& z) := by
  apply BitVec.eq_of_getLsbD_eq
  intro i _
  simp only [BitVec.getLsbD_and, BitVec.getLsbD_xor]
  cases x.getLsbD i <;> simp

theorem bstep_zero : bstep 0#32 = 0#32 := by decide

theorem iter_xor (n : Nat) (x y : BitVec 32) : iter n (x ^^^ y) = iter n x ^^^ iter n y := by
  induction n with
  | zero => rfl
  | succ n ih => simp only [iter, ih, bstep_xor]

theorem iter_zero (n : Nat) : iter n 0#32 = 0#32 := by
  induction n with
  | zero => rfl
  | succ n ih => simp only [iter, ih, bstep_zero]

theorem iter_add (m n : Nat) (x : BitVec 32) : iter m (iter n x) = iter (m + n) x := by
  induction m with
  | zero => simp [iter]
  | succ m ih => rw [show m + 1 + n = (m + n) + 1 from by omega]; simp only [iter, ih]

theorem bstep_even (x : BitVec 32) (h : x.getLsbD 0 = false) : bstep x = x >>> 1 := by
  unfold bstep
  rw [and_one, h]
  simp

theorem bstep_eq_zero (x : BitVec 32) (h : bstep x = 0#32) : x = 0#32 := by
  have h0 : x.getLsbD 0 = false := by
    cases hx : x.getLsbD 0 with
    | false => rfl
    | true =>
      have h31 := congrArg (fun z => z.getLsbD 31) h
      simp only [bstep, and_one, hx] at h31
      simp at h31
  rw [bstep_even x h0] at h
  apply BitVec.eq_of_getLsbD_eq
  intro i hi
  cases i with
  | zero => rw [h0]; simp
  | succ i =>
    have := congrArg (fun z => z.getLsbD i) h
    simp at this
    rw [Nat.add_comm] at this
    simp [this]

theorem xor_eq_zero {x y : BitVec 32} (h : x ^^^ y = 0#32) : x = y := by
  have : x ^^^ y ^^^ y = 0#32 ^^^ y := by rw [h]
  rw [BitVec.xor_assoc, BitVec.xor_self, BitVec.xor_zero, BitVec.zero_xor] at this
  exact this

theorem iter_eq_zero (n : Nat) (x : BitVec 32) (h : iter n x = 0#32) : x = 0#32 := by
  induction n with
  | zero => exact h
  | succ n ih => exact ih (bstep_eq_zero _ h)

theorem iter_inj (n : Nat) {x y : BitVec 32} (h : iter n x = iter n y) : x = y := by
  apply xor_eq_zero
  apply iter_eq_zero n
  rw [iter_xor, h, BitVec.xor_self]

/-- As many steps as low bits are zero are a shift. -/
theorem iter_low (n : Nat) (x : BitVec 32) (h : ∀ i, i < n → x.getLsbD i = false) : iter n x = x >>> n := by
  induction n with
  | zero => simp [iter]
  | succ n ih =>
    rw [iter, ih (fun i hi => h i (by omega))]
    rw [bstep_even]
    · rw [← BitVec.shiftRight_add]
    · simp; exact h n (by omega)

theorem low8 (r : BitVec 32) (b : Nat) (hb : b < 256) : BitVec.ofNat 32 ((r.toNat % 256) ^^^ b) = (r ^^^ BitVec.ofNat 32 b) &&& 255#32 := by
  apply BitVec.eq_of_toNat_eq
  have h1 : (r.toNat % 256) ^^^ b < 256 := Nat.xor_lt_two_pow (n := 8) (Nat.mod_lt _ (by omega)) (by omega)
  rw [BitVec.toNat_ofNat, Nat.mod_eq_of_lt (by omega), BitVec.toNat_and, BitVec.toNat_xor, BitVec.toNat_ofNat, Nat.mod_eq_of_lt (a := b) (by omega)]
  rw [show (255#32).toNat = 2 ^ 8 - 1 from rfl, Nat.and_two_pow_sub_one_eq_mod, show (256 : Nat) = 2 ^ 8 from rfl, Nat.xor_mod_two_pow, Nat.mod_eq_of_lt (a := b) (by omega)]

/-- A BYTE'S STEP BY THE TABLE IS EIGHT BIT STEPS. -/
theorem cstep_eq (r : BitVec 32) (b : Nat) (hb : b < 256) : cstep r b = iter 8 (r ^^^ BitVec.ofNat 32 b) := by
  unfold cstep tab
  rw [low8 r b hb]
  have hsplit : r ^^^ BitVec.ofNat 32 b = ((r ^^^ BitVec.ofNat 32 b) &&& 4294967040#32) ^^^ ((r ^^^ BitVec.ofNat 32 b) &&& 255#32) := by
    rw [← and_xor, show 4294967040#32 ^^^ 255#32 = BitVec.allOnes 32 from by decide, BitVec.and_allOnes]
  conv => rhs; rw [hsplit]
  rw [iter_xor]
  congr 1
  rw [iter_low 8]
  · apply BitVec.eq_of_getLsbD_eq
    intro i hi
    have hb8 : (BitVec.ofNat 32 b).getLsbD (8 + i) = false := by
      simp only [BitVec.getLsbD_ofNat]
      rw [Nat.testBit_lt_two_pow (Nat.lt_of_lt_of_le hb (by rw [show (256 : Nat) = 2 ^ 8 from rfl]; exact Nat.pow_le_pow_right (by omega) (by omega)))]
      simp
    simp only [BitVec.getLsbD_ushiftRight, BitVec.getLsbD_and, BitVec.getLsbD_xor, hb8, Bool.xor_false]
    by_cases h32 : 8 + i < 32
    · have : (4294967040#32).getLsbD (8 + i) = true := by
        have : i < 24 := by omega
        have key : ∀ j : Fin 24, (4294967040#32).getLsbD (8 + j.val) = true := by decide
        exact key ⟨i, this⟩
      rw [this, Bool.and_true]
    · rw [BitVec.getLsbD_of_ge r _ (by omega)]; rfl
  · intro i hi
    simp only [BitVec.getLsbD_and]
    have key : ∀ j : Fin 8, (4294967040#32).getLsbD j.val = false := by decide
    rw [key ⟨i, hi⟩, Bool.and_false]

theorem cstep_inj {r s : BitVec 32} (b : UInt8) (h : cstep r b.toNat = cstep s b.toNat) : r = s := by
  have hb : b.toNat < 256 := b.toNat_lt
  rw [cstep_eq _ _ hb, cstep_eq _ _ hb] at h
  have h2 := iter_inj 8 h
  have := congrArg (· ^^^ BitVec.ofNat 32 b.toNat) h2
  simpa [BitVec.xor_assoc] using this

theorem crcL_inj (l : List UInt8) {r s : BitVec 32} (h : crcL r l = crcL s l) : r = s := by
  induction l generalizing r s with
  | nil => exact h
  | cons b l ih => exact cstep_inj b (ih h)

theorem crcL_append (r : BitVec 32) (l m : List UInt8) : crcL r (l ++ m) = crcL (crcL r l) m := by
  simp [crcL]

def word (a b c d : Nat) : BitVec 32 := BitVec.ofNat 32 a ^^^ BitVec.ofNat 32 (b * 256) ^^^ BitVec.ofNat 32 (c * 65536) ^^^ BitVec.ofNat 32 (d * 16777216)

theorem ofNat_low (b k : Nat) : ∀ i, i < k → (BitVec.ofNat 32 (b * 2 ^ k)).getLsbD i = false := by
  intro i hi
  rw [BitVec.getLsbD_ofNat, Nat.testBit_mul_two_pow]
  simp; omega

theorem iter_byte (b k : Nat) (hb : b * 2 ^ k < 4294967296) : iter k (BitVec.ofNat 32 (b * 2 ^ k)) = BitVec.ofNat 32 b := by
  rw [iter_low k _ (ofNat_low b k)]
  apply BitVec.eq_of_toNat_eq
  have hb' : b < 4294967296 := Nat.lt_of_le_of_lt (Nat.le_mul_of_pos_right b (Nat.two_pow_pos k)) hb
  rw [BitVec.toNat_ushiftRight, BitVec.toNat_ofNat, BitVec.toNat_ofNat, Nat.mod_eq_of_lt (by simpa using hb), Nat.mod_eq_of_lt (by simpa using hb'), Nat.shiftRight_eq_div_pow, Nat.mul_div_cancel _ (Nat.two_pow_pos k)]

/-- FOUR BYTES ARE THIRTY-TWO STEPS UPON THEIR WORD. -/
theorem crcL_four (r : BitVec 32) (a b c d : UInt8) : crcL r [a, b, c, d] = iter 32 (r ^^^ word a.toNat b.toNat c.toNat d.toNat) := by
  have ha : a.toNat < 256 := a.toNat_lt
  have hb : b.toNat < 256 := b.toNat_lt
  have hc : c.toNat < 256 := c.toNat_lt
  have hd : d.toNat < 256 := d.toNat_lt
  have e1 := iter_byte b.toNat 8 (by simp; omega)
  have e2 := iter_byte c.toNat 16 (by simp; omega)
  have e3 := iter_byte d.toNat 24 (by simp; omega)
  simp only [show (2 : Nat) ^ 8 = 256 from rfl, show (2 : Nat) ^ 16 = 65536 from rfl, show (2 : Nat) ^ 24 = 16777216 from rfl] at e1 e2 e3
  show cstep (cstep (cstep (cstep r a.toNat) b.toNat) c.toNat) d.toNat = _
  rw [cstep_eq _ _ ha, cstep_eq _ _ hb, cstep_eq _ _ hc, cstep_eq _ _ hd]
  rw [← e1, ← iter_xor, iter_add, ← e2, ← iter_xor, iter_add, ← e3, ← iter_xor, iter_add]
  unfold word
  congr 1
  ac_rfl

theorem word_toNat (a b c d : Nat) (ha : a < 256) (hb : b < 256) (hc : c < 256) (hd : d < 256) : (word a b c d).toNat = a + b * 256 + c * 65536 + d * 16777216 := by
  unfold word
  simp only [BitVec.toNat_xor, BitVec.toNat_ofNat]
  rw [Nat.mod_eq_of_lt (a := a) (by omega), Nat.mod_eq_of_lt (a := b * 256) (by omega), Nat.mod_eq_of_lt (a := c * 65536) (by omega), Nat.mod_eq_of_lt (a := d * 16777216) (by omega)]
  have x1 : a ^^^ b * 256 = a + b * 256 := by
    have := Nat.two_pow_add_eq_or_of_lt (i := 8) (b := a) (by omega) b
    have h2 : b * 256 &&& a = 0 := by
      apply Nat.eq_of_testBit_eq
      intro i
      rw [Nat.testBit_and, Nat.zero_testBit, show b * 256 = b * 2 ^ 8 from rfl, Nat.testBit_mul_two_pow]
      by_cases hi : 8 ≤ i
      · rw [Nat.testBit_lt_two_pow (x := a) (Nat.lt_of_lt_of_le ha (by rw [show (256 : Nat) = 2 ^ 8 from rfl]; exact Nat.pow_le_pow_right (by omega) hi))]; simp
      · simp [hi]
    have h3 := Nat.two_pow_add_eq_or_of_lt (i := 8) (b := a) (by omega) b
    rw [Nat.xor_comm, show a + b * 256 = 2 ^ 8 * b + a from by omega, h3, show 2 ^ 8 * b = b * 256 from by omega]
    apply Nat.eq_of_testBit_eq
    intro i
    have := congrArg (fun z => z.testBit i) h2
    simp only [Nat.testBit_and, Nat.zero_testBit] at this
    rw [Nat.testBit_xor, Nat.testBit_or]
    cases h1 : (b * 256).testBit i <;> cases h2 : a.testBit i <;> simp_all
  have gen : ∀ (p q k : Nat), p < 2 ^ k → p ^^^ q * 2 ^ k = p + q * 2 ^ k := by
    intro p q k hp
    have h3 := Nat.two_pow_add_eq_or_of_lt (i := k) (b := p) hp q
    rw [Nat.xor_comm, show p + q * 2 ^ k = 2 ^ k * q + p from by rw [Nat.mul_comm q]; omega, h3, Nat.mul_comm (2 ^ k) q]
    apply Nat.eq_of_testBit_eq
    intro i
    rw [Nat.testBit_xor, Nat.testBit_or, Nat.testBit_mul_two_pow]
    by_cases hi : k ≤ i
    · rw [Nat.testBit_lt_two_pow (x := p) (Nat.lt_of_lt_of_le hp (Nat.pow_le_pow_right (by omega) hi))]; simp
    · simp [hi]
  rw [x1]
  have x2 := gen (a + b * 256) c 16 (by simp; omega)
  have x3 := gen (a + b * 256 + c * 65536) d 24 (by simp; omega)
  simp only [show (2 : Nat) ^ 16 = 65536 from rfl, show (2 : Nat) ^ 24 = 16777216 from rfl] at x2 x3
  rw [x2, x3]

/-- WHAT DIFFERS WITHIN FOUR NEIGHBOURING BYTES HAS TWO SUMS. -/
theorem crcL_differ (r : BitVec 32) (pre post : List UInt8) (a b c d a' b' c' d' : UInt8) (h : crcL r (pre ++ [a, b, c, d] ++ post) = crcL r (pre ++ [a', b', c', d'] ++ post)) : a = a' ∧ b = b' ∧ c = c' ∧ d = d' := by
  rw [crcL_append, crcL_append, crcL_append, crcL_append] at h
  have h1 := crcL_inj post h
  rw [crcL_four, crcL_four] at h1
  have h2 := iter_inj 32 h1
  have h3 := congrArg (crcL r pre ^^^ ·) h2
  simp only [← BitVec.xor_assoc, BitVec.xor_self, BitVec.zero_xor] at h3
  have h4 := congrArg BitVec.toNat h3
  have := a.toNat_lt
  have := b.toNat_lt
  have := c.toNat_lt
  have := d.toNat_lt
  have := a'.toNat_lt
  have := b'.toNat_lt
  have := c'.toNat_lt
  have := d'.toNat_lt
  rw [word_toNat _ _ _ _ (by omega) (by omega) (by omega) (by omega), word_toNat _ _ _ _ (by omega) (by omega) (by omega) (by omega)] at h4
  refine ⟨UInt8.toNat.inj (by omega), UInt8.toNat.inj (by omega), UInt8.toNat.inj (by omega), UInt8.toNat.inj (by omega)⟩

/-- The first m of four neighbouring bytes, from place k on, are turned. -/
def spoil (t : List UInt8) (k : Nat) (by_ : List UInt8) : Nat → List UInt8
  | 0 => t
  | m+1 => (spoil t k by_ m).set (k + m) (t.getD (k + m) 0 ^^^ by_.getD m 0)
theorem length_spoil (t : List UInt8) (k : Nat) (by_ : List UInt8) (m : Nat) : (spoil t k by_ m).length = t.length := by
  induction m with
  | zero => rfl
  | succ m ih => simp [spoil, ih]
theorem spoil_later (t : List UInt8) (k : Nat) (by_ : List UInt8) (m j : Nat) (h : k + m ≤ j) : (spoil t k by_ m)[j]? = t[j]? := by
  induction m with
  | zero => rfl
  | succ m ih => rw [spoil, List.getElem?_set_ne (by omega), ih (by omega)]
theorem split4 (t : List UInt8) (k : Nat) (h : k + 4 ≤ t.length) : ∃ pre a b c d post, t = pre ++ [a, b, c, d] ++ post ∧ pre.length = k := by
  refine ⟨t.take k, t[k], t[k+1], t[k+2], t[k+3], t.drop (k + 4), ?_, by simp; omega⟩
  conv => lhs; rw [← List.take_append_drop k t, List.drop_eq_getElem_cons (by omega), List.drop_eq_getElem_cons (by omega), List.drop_eq_getElem_cons (by omega), List.drop_eq_getElem_cons (by omega)]
  simp
theorem spoil4 (pre post : List UInt8) (a b c d x y z u : UInt8) : spoil (pre ++ [a, b, c, d] ++ post) pre.length [x, y, z, u] 4 = pre ++ [a ^^^ x, b ^^^ y, c ^^^ z, d ^^^ u] ++ post := by
  simp [spoil, List.set_append_right]
theorem spoil_same (r : BitVec 32) (t : List UInt8) (k : Nat) (x y z u : UInt8) (h : k + 4 ≤ t.length) :
    (crcL r (spoil t k [x, y, z, u] 4) = crcL r t) ↔ (x = 0 ∧ y = 0 ∧ z = 0 ∧ u = 0) := by
  obtain ⟨pre, a, b, c, d, post, rfl, rfl⟩ := split4 t k h
  rw [spoil4]
  constructor
  · intro e
    have e' := crcL_differ r pre post _ _ _ _ _ _ _ _ e
    have can (p q : UInt8) (hpq : p ^^^ q = p) : q = 0 := by
      have : p ^^^ (p ^^^ q) = p ^^^ p := by rw [hpq]
      rw [← UInt8.xor_assoc, UInt8.xor_self, UInt8.zero_xor] at this
      exact this
    exact ⟨can _ _ e'.1, can _ _ e'.2.1, can _ _ e'.2.2.1, can _ _ e'.2.2.2⟩
  · rintro ⟨rfl, rfl, rfl, rfl⟩
    simp
theorem spoil_zero (t : List UInt8) (k : Nat) (h : k + 4 ≤ t.length) : spoil t k [0, 0, 0, 0] 4 = t := by
  obtain ⟨pre, a, b, c, d, post, rfl, rfl⟩ := split4 t k h
  rw [spoil4]
  simp
end Go.Proofs.YtblnmghbcgbgdaaDoor.Crc
