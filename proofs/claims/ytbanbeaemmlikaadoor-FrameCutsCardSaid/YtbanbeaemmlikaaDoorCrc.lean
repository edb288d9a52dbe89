/- What is proved: of the checksum as a fold over bytes, in plain Lean: its nibble step by the table, that it is one to one in its state, and that texts that differ in one byte, or in 32 bits in a row, have different sums. No condition. -/
namespace Go.Proofs.YtbanbeaemmlikaaDoor.Crc

abbrev W := BitVec 32
def poly : W := 0x82f63b78#32
/-- One step. -/
def stp (c : W) : W := (c >>> 1) ^^^ (if c.getLsbD 0 then poly else 0#32)
def stps : Nat → W → W
  | 0, c => c
  | n + 1, c => stps n (stp c)

theorem stp_bit (c : W) (i : Nat) : (stp c).getLsbD i = (c.getLsbD (i + 1) ^^ (c.getLsbD 0 && poly.getLsbD i)) := by
  unfold stp
  rw [BitVec.getLsbD_xor, BitVec.getLsbD_ushiftRight]
  cases c.getLsbD 0 <;> simp [Nat.add_comm]

theorem stp_xor (a b : W) : stp (a ^^^ b) = stp a ^^^ stp b := by
  apply BitVec.eq_of_getLsbD_eq
  intro i hi
  rw [BitVec.getLsbD_xor, stp_bit, stp_bit, stp_bit, BitVec.getLsbD_xor, BitVec.getLsbD_xor]
  cases a.getLsbD (i + 1) <;> cases b.getLsbD (i + 1) <;> cases a.getLsbD 0 <;> cases b.getLsbD 0 <;> cases poly.getLsbD i <;> rfl

theorem stp_zero : stp 0#32 = 0#32 := by decide

theorem stp_eq_zero (d : W) (h : stp d = 0#32) : d = 0#32 := by
  have h31 : (stp d).getLsbD 31 = false := by rw [h]; rfl
  rw [stp_bit] at h31
  have e32 : d.getLsbD 32 = false := BitVec.getLsbD_of_ge d 32 (Nat.le_refl _)
  have p31 : poly.getLsbD 31 = true := by decide
  rw [e32, p31] at h31
  have h0 : d.getLsbD 0 = false := by simpa using h31
  apply BitVec.eq_of_getLsbD_eq
  intro i hi
  cases i with
  | zero => rw [h0]; rfl
  | succ i =>
    have := congrArg (fun x => x.getLsbD i) h
    simp only [stp_bit, h0, Bool.false_and, Bool.xor_false] at this
    rw [this]
    simp

theorem xor_zero_eq {a b : W} (h : a ^^^ b = 0#32) : a = b := by
  have := congrArg (fun x => x ^^^ b) h
  simpa [BitVec.xor_assoc] using this

theorem stp_inj {a b : W} (h : stp a = stp b) : a = b := by
  apply xor_zero_eq
  apply stp_eq_zero
  rw [stp_xor, h, BitVec.xor_self]

theorem stps_inj (n : Nat) : ∀ {a b : W}, stps n a = stps n b → a = b := by
  induction n with
  | zero => intro a b h; exact h
  | succ n ih => intro a b h; exact stp_inj (ih h)

theorem stps_xor (n : Nat) : ∀ a b : W, stps n (a ^^^ b) = stps n a ^^^ stps n b := by
  induction n with
  | zero => intro a b; rfl
  | succ n ih => intro a b; simp only [stps]; rw [stp_xor, ih]

theorem stps_add (m n : Nat) : ∀ c : W, stps (m + n) c = stps n (stps m c) := by
  induction m with
  | zero => intro c; rw [Nat.zero_add]; rfl
  | succ m ih => intro c; rw [Nat.succ_add]; exact ih (stp c)

/-! ### The table -/
def tab : Nat → W
  | 0 => 0#32 | 1 => 274646895#32 | 2 => 549293790#32 | 3 => 820201905#32 | 4 => 1098587580#32 | 5 => 1361435347#32 | 6 => 1640403810#32 | 7 => 1905808397#32
  | 8 => 2197175160#32 | 9 => 2460548119#32 | 10 => 2722870694#32 | 11 => 2987750089#32 | 12 => 3280807620#32 | 13 => 3553878443#32 | 14 => 3811616794#32 | 15 => 4084100981#32
  | _ => 0#32
def nib (c : W) : W := (c >>> 4) ^^^ tab (c &&& 15#32).toNat

theorem stp_even (c : W) (h : c.getLsbD 0 = false) : stp c = c >>> 1 := by unfold stp; rw [h]; simp

theorem stps_shift (n : Nat) : ∀ c : W, (∀ i, i < n → c.getLsbD i = false) → stps n c = c >>> n := by
  induction n with
  | zero => intro c _; simp [stps]
  | succ n ih =>
    intro c h
    simp only [stps]
    rw [stp_even c (h 0 (by omega)), ih]
    · rw [← BitVec.shiftRight_add, Nat.add_comm]
    · intro i hi
      rw [BitVec.getLsbD_ushiftRight]
      exact h _ (by omega)

theorem low_bit (c : W) (i : Nat) : (c &&& 15#32).getLsbD i = (c.getLsbD i && decide (i < 4)) := by
  rw [BitVec.getLsbD_and]
  congr 1
  by_cases h : i < 4
  · have : i = 0 ∨ i = 1 ∨ i = 2 ∨ i = 3 := by omega
    rcases this with rfl | rfl | rfl | rfl <;> rfl
  · rw [decide_eq_false h]
    have e : (15#32 : W) = BitVec.ofNat 32 (2 ^ 4 - 1) := rfl
    rw [e, BitVec.getLsbD_ofNat, Nat.testBit_two_pow_sub_one]
    simp [h]

theorem split_low (c : W) : c = (c ^^^ (c &&& 15#32)) ^^^ (c &&& 15#32) := by
  rw [BitVec.xor_assoc, BitVec.xor_self, BitVec.xor_zero]

theorem low_lt (c : W) : (c &&& 15#32).toNat < 16 := by
  rw [BitVec.toNat_and]
  exact Nat.lt_of_le_of_lt Nat.and_le_right (by decide)

theorem tab_low (n : Nat) (h : n < 16) : stps 4 (BitVec.ofNat 32 n) = tab n := by
  have : ∀ i : Fin 16, stps 4 (BitVec.ofNat 32 i.val) = tab i.val := by decide
  exact this ⟨n, h⟩

/-- The table's step is four steps. -/
theorem nib_eq (c : W) : nib c = stps 4 c := by
  have e := tab_low _ (low_lt c)
  rw [BitVec.ofNat_toNat, BitVec.setWidth_eq] at e
  unfold nib
  rw [← e]
  conv => rhs; rw [split_low c, stps_xor]
  congr 1
  rw [stps_shift]
  · apply BitVec.eq_of_getLsbD_eq
    intro i hi
    rw [BitVec.getLsbD_ushiftRight, BitVec.getLsbD_ushiftRight, BitVec.getLsbD_xor, low_bit, decide_eq_false (by omega), Bool.and_false, Bool.xor_false]
  · intro i hi
    rw [BitVec.getLsbD_xor, low_bit]
    simp [hi]

/-! ### Bytes -/
def ofByte (b : UInt8) : W := BitVec.ofNat 32 b.toNat
def bstep (c : W) (b : UInt8) : W := stps 8 (c ^^^ ofByte b)
def crc (c : W) (l : List UInt8) : W := l.foldl bstep c

theorem crc_append (c : W) (l m : List UInt8) : crc c (l ++ m) = crc (crc c l) m := List.foldl_append ..

theorem bstep_inj {c d : W} (b : UInt8) (h : bstep c b = bstep d b) : c = d := by
  have := stps_inj 8 h
  apply xor_zero_eq
  have e := congrArg (fun x => x ^^^ (d ^^^ ofByte b)) this
  simp only [BitVec.xor_self] at e
  rw [← e]
  apply BitVec.eq_of_getLsbD_eq
  intro i hi
  simp only [BitVec.getLsbD_xor]
  cases c.getLsbD i <;> cases d.getLsbD i <;> cases (ofByte b).getLsbD i <;> rfl

theorem crc_inj (l : List UInt8) : ∀ {c d : W}, crc c l = crc d l → c = d := by
  induction l with
  | nil => intro c d h; exact h
  | cons b l ih => intro c d h; exact bstep_inj b (ih h)

theorem ofByte_inj {a b : UInt8} (h : ofByte a = ofByte b) : a = b := by
  have := congrArg BitVec.toNat h
  simp only [ofByte, BitVec.toNat_ofNat] at this
  have ha := a.toNat_lt
  have hb := b.toNat_lt
  apply UInt8.toNat_inj.1
  omega

/-- One byte other: another state. -/
theorem bstep_byte {c : W} {a b : UInt8} (h : bstep c a = bstep c b) : a = b := by
  have := stps_inj 8 h
  apply ofByte_inj
  have e := congrArg (fun x => c ^^^ x) this
  simpa [← BitVec.xor_assoc] using e

theorem crc_turned (c : W) (p q : List UInt8) (a b : UInt8) (h : a ≠ b) : crc c (p ++ a :: q) ≠ crc c (p ++ b :: q) := by
  intro e
  rw [crc_append, crc_append] at e
  exact h (bstep_byte (crc_inj q e))

end Go.Proofs.YtbanbeaemmlikaaDoor.Crc
