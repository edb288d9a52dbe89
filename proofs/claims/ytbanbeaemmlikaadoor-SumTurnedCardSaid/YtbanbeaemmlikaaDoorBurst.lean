/- What is proved: that a burst of at most 32 turned bits changes the sum. No condition but what each theorem says. -/
import Derived.Test.YtbanbeaemmlikaaDoorCrc
namespace Go.Proofs.YtbanbeaemmlikaaDoor.Crc

theorem stps_zero (n : Nat) : stps n 0#32 = 0#32 := by
  induction n with
  | zero => rfl
  | succ n ih => rw [stps, stp_zero, ih]

/-- Bits, one by one. -/
def brun (c : W) (f : Nat → Bool) : Nat → W
  | 0 => c
  | n + 1 => stp (brun c f n ^^^ (if f n then 1#32 else 0#32))

theorem brun_xor (c d : W) (f g : Nat → Bool) (n : Nat) : brun (c ^^^ d) (fun i => f i ^^ g i) n = brun c f n ^^^ brun d g n := by
  induction n with
  | zero => rfl
  | succ n ih =>
    rw [brun, brun, brun, ih, ← stp_xor]
    congr 1
    have : (if (f n ^^ g n) = true then (1#32 : W) else 0#32) = (if f n = true then (1#32 : W) else 0#32) ^^^ (if g n = true then (1#32 : W) else 0#32) := by
      cases f n <;> cases g n <;> decide
    rw [this]
    ac_rfl
theorem brun_add (c : W) (f : Nat → Bool) (m n : Nat) : brun c f (m + n) = brun (brun c f m) (fun i => f (m + i)) n := by
  induction n with
  | zero => rfl
  | succ n ih => rw [← Nat.add_assoc, brun, ih, brun]
theorem brun_congr (c : W) (f g : Nat → Bool) (n : Nat) (h : ∀ i, i < n → f i = g i) : brun c f n = brun c g n := by
  induction n with
  | zero => rfl
  | succ n ih => rw [brun, brun, ih (fun i hi => h i (by omega)), h n (by omega)]
theorem brun_none (c : W) (n : Nat) : brun c (fun _ => false) n = stps n c := by
  induction n with
  | zero => rfl
  | succ n ih =>
    rw [brun, ih, stps_add n 1 c]
    simp [stps]

/-- A word's bits go in one by one as they go in at once. -/
theorem brun_word (n : Nat) (hn : n ≤ 32) (v : W) : brun 0#32 (fun i => v.getLsbD i) n = stps n (v &&& (BitVec.ofNat 32 (2 ^ n - 1))) := by
  induction n with
  | zero =>
    rw [brun]
    show _ = v &&& 0#32
    simp
  | succ n ih =>
    have e : v &&& (BitVec.ofNat 32 (2 ^ (n + 1) - 1)) = (v &&& (BitVec.ofNat 32 (2 ^ n - 1))) ^^^ (if v.getLsbD n then 1#32 <<< n else 0#32) := by
      apply BitVec.eq_of_getLsbD_eq
      intro i hi
      have hm : ∀ m : Nat, m ≤ 32 → (BitVec.ofNat 32 (2 ^ m - 1)).getLsbD i = decide (i < m) := by
        intro m hm
        rw [BitVec.getLsbD_ofNat, Nat.testBit_two_pow_sub_one]
        simp [hi]
      have hs : (1#32 <<< n).getLsbD i = decide (i = n) := by
        rw [BitVec.getLsbD_shiftLeft, BitVec.getLsbD_one]
        by_cases h : i = n
        · subst h; simp [hi]
        · simp [h]
          omega
      rw [BitVec.getLsbD_and, BitVec.getLsbD_xor, BitVec.getLsbD_and, hm (n + 1) hn, hm n (by omega)]
      by_cases hv : v.getLsbD n
      · rw [if_pos hv, hs]
        by_cases h : i = n
        · subst h; simp [hv]
        · have : decide (i < n + 1) = decide (i < n) := by congr 1; apply propext; omega
          rw [this]; simp [h]
      · rw [if_neg hv]
        by_cases h : i = n
        · subst h; simp at hv; simp [hv]
        · have : decide (i < n + 1) = decide (i < n) := by congr 1; apply propext; omega
          rw [this]; simp
    have hsh : stps n (if v.getLsbD n then 1#32 <<< n else 0#32) = (if v.getLsbD n then 1#32 else 0#32) := by
      have low : ∀ i, i < n → ((if v.getLsbD n then 1#32 <<< n else 0#32) : W).getLsbD i = false := by
        intro i hi
        split
        · rw [BitVec.getLsbD_shiftLeft]; simp [hi]
        · simp
      rw [stps_shift n _ low]
      split
      · apply BitVec.eq_of_getLsbD_eq
        intro i hi
        rw [BitVec.getLsbD_ushiftRight, BitVec.getLsbD_shiftLeft, BitVec.getLsbD_one, BitVec.getLsbD_one]
        by_cases h : i = 0
        · subst h; simp; omega
        · simp [h]
      · simp
    rw [brun, ih (by omega), e, stps_xor (n + 1), stps_add n 1, stps_add n 1, ← stps_xor 1, hsh]
    rfl

/-- The bits of bytes. -/
def bitAt (l : List UInt8) (p : Nat) : Bool := (l.getD (p / 8) 0).toNat.testBit (p % 8)

theorem bstep_bits (c : W) (b : UInt8) : bstep c b = brun c (fun i => b.toNat.testBit i) 8 := by
  have e := brun_xor c 0#32 (fun _ => false) (fun i => b.toNat.testBit i) 8
  have e2 : brun 0#32 (fun i => b.toNat.testBit i) 8 = stps 8 (ofByte b) := by
    have h := brun_word 8 (by decide) (ofByte b)
    rw [← brun_congr 0#32 (fun i => b.toNat.testBit i) (fun i => (ofByte b).getLsbD i) 8 (fun i hi => by unfold ofByte; rw [BitVec.getLsbD_ofNat]; simp; omega)] at h
    rw [h]
    congr 1
    apply BitVec.eq_of_toNat_eq
    rw [BitVec.toNat_and]
    unfold ofByte
    have hb := b.toNat_lt
    rw [BitVec.toNat_ofNat, Nat.mod_eq_of_lt (by omega), BitVec.toNat_ofNat]
    show b.toNat &&& 255 = b.toNat
    exact (Nat.and_two_pow_sub_one_eq_mod b.toNat 8).trans (Nat.mod_eq_of_lt (by omega))
  rw [brun_none, e2, BitVec.xor_zero, ← stps_xor] at e
  unfold bstep
  rw [← e]
  exact brun_congr _ _ _ _ (fun i _ => by simp)

theorem crc_bits (l : List UInt8) : ∀ c : W, crc c l = brun c (bitAt l) (8 * l.length) := by
  induction l with
  | nil => intro c; rfl
  | cons b l ih =>
    intro c
    show crc (bstep c b) l = _
    rw [ih, List.length_cons, show 8 * (l.length + 1) = 8 + 8 * l.length by omega, brun_add, bstep_bits]
    have e1 : brun c (bitAt (b :: l)) 8 = brun c (fun i => b.toNat.testBit i) 8 := brun_congr _ _ _ _ (fun i hi => by
      unfold bitAt
      rw [show i / 8 = 0 by omega, show i % 8 = i by omega]
      rfl)
    rw [e1]
    exact brun_congr _ _ _ _ (fun i _ => by
      unfold bitAt
      rw [show (8 + i) / 8 = i / 8 + 1 by omega, show (8 + i) % 8 = i % 8 by omega]
      rfl)

/-- A burst: the bits n .. n + 31 are turned by a word that is not nought. -/
theorem crc_burst (c : W) (l m : List UInt8) (n : Nat) (v : W) (hv : v ≠ 0#32) (hl : l.length = m.length) (hn : n + 32 ≤ 8 * l.length)
    (h : ∀ p, p < 8 * l.length → bitAt m p = (bitAt l p ^^ (decide (n ≤ p) && v.getLsbD (p - n)))) : crc c m ≠ crc c l := by
  intro e
  rw [crc_bits, crc_bits, ← hl] at e
  have e1 : brun c (bitAt m) (8 * l.length) = brun (c ^^^ 0#32) (fun p => bitAt l p ^^ (decide (n ≤ p) && v.getLsbD (p - n))) (8 * l.length) := by
    rw [BitVec.xor_zero]
    exact brun_congr _ _ _ _ h
  rw [e1, brun_xor] at e
  have e2 : brun 0#32 (fun p => decide (n ≤ p) && v.getLsbD (p - n)) (8 * l.length) = 0#32 := by
    have := congrArg (fun x => brun c (bitAt l) (8 * l.length) ^^^ x) e
    simpa [← BitVec.xor_assoc] using this
  obtain ⟨r, hr⟩ : ∃ r, 8 * l.length = n + (32 + r) := ⟨8 * l.length - n - 32, by omega⟩
  rw [hr, brun_add, brun_add] at e2
  have z0 : brun 0#32 (fun p => decide (n ≤ p) && v.getLsbD (p - n)) n = 0#32 := by
    rw [brun_congr _ _ (fun _ => false) n (fun i hi => by simp; omega), brun_none]
    exact stps_zero n
  rw [z0] at e2
  have z1 : brun 0#32 (fun i => decide (n ≤ n + i) && v.getLsbD (n + i - n)) 32 = stps 32 v := by
    rw [brun_congr _ _ (fun i => v.getLsbD i) 32 (fun i hi => by simp [Nat.add_sub_cancel_left]), brun_word 32 (by decide)]
    congr 1
    apply BitVec.eq_of_getLsbD_eq
    intro i hi
    rw [BitVec.getLsbD_and, BitVec.getLsbD_ofNat, Nat.testBit_two_pow_sub_one]
    simp [hi]
  rw [z1] at e2
  have z2 : brun (stps 32 v) (fun i => decide (n ≤ n + (32 + i)) && v.getLsbD (n + (32 + i) - n)) r = stps r (stps 32 v) := by
    rw [brun_congr _ _ (fun _ => false) r (fun i hi => by
      rw [show n + (32 + i) - n = 32 + i by omega, BitVec.getLsbD_of_ge _ _ (by omega)]
      simp), brun_none]
  rw [z2] at e2
  have e3 := stps_inj r (e2.trans (stps_zero r).symm)
  exact hv (stps_inj 32 (e3.trans (stps_zero 32).symm))
end Go.Proofs.YtbanbeaemmlikaaDoor.Crc
