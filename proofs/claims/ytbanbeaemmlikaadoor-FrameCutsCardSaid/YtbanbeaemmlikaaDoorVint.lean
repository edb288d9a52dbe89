/- What is proved: of numbers written seven bits a byte, in plain Lean: they are read back, and a row of bytes is a number's exactly if its last byte is none too many. No condition. -/
import Derived.Test.YtbanbeaemmlikaaDoorVput
namespace Go.Proofs.YtbanbeaemmlikaaDoor.Px

def vb (n : Nat) : List UInt8 := (vbytes n).map UInt8.ofNat
/-- The number of some bytes. -/
def dec : List UInt8 → Nat
  | [] => 0
  | b :: l => b.toNat % 128 + 128 * dec l

theorem vb_lo {n : Nat} (h : n < 128) : vb n = [UInt8.ofNat n] := by unfold vb; rw [vbytes, if_pos h]; rfl
theorem vb_hi {n : Nat} (h : ¬ n < 128) : vb n = UInt8.ofNat (n % 128 + 128) :: vb (n / 128) := by unfold vb; rw [vbytes, if_neg h]; rfl
theorem ofNat_toNat {n : Nat} (h : n < 256) : (UInt8.ofNat n).toNat = n := by rw [UInt8.toNat_ofNat']; exact Nat.mod_eq_of_lt h
theorem toNat_ofNat (b : UInt8) : UInt8.ofNat b.toNat = b := by simp

theorem dec_vb (n : Nat) : dec (vb n) = n := by
  induction n using Nat.strongRecOn with
  | _ n ih =>
    by_cases h : n < 128
    · rw [vb_lo h]; simp only [dec]; rw [ofNat_toNat (by omega)]; omega
    · rw [vb_hi h]; simp only [dec]; rw [ofNat_toNat (by omega), ih (n / 128) (by omega)]; omega

/-- All but the last have the mark; the last one has it not, and is 0 only alone. -/
theorem vb_shape (n : Nat) : ∃ (ini : List UInt8) (last : UInt8), vb n = ini ++ [last] ∧ (∀ b ∈ ini, 128 ≤ b.toNat) ∧ last.toNat < 128 ∧ (ini = [] ∨ last.toNat ≠ 0) := by
  induction n using Nat.strongRecOn with
  | _ n ih =>
    by_cases h : n < 128
    · exact ⟨[], UInt8.ofNat n, vb_lo h, by simp, by rw [ofNat_toNat (by omega)]; exact h, .inl rfl⟩
    · obtain ⟨ini, last, e, h1, h2, h3⟩ := ih (n / 128) (by omega)
      refine ⟨UInt8.ofNat (n % 128 + 128) :: ini, last, by rw [vb_hi h, e]; rfl, ?_, h2, .inr ?_⟩
      · intro b hb
        rcases List.mem_cons.1 hb with rfl | hb
        · rw [ofNat_toNat (by omega)]; omega
        · exact h1 b hb
      · rcases h3 with h3 | h3
        · have e2 := dec_vb (n / 128)
          rw [e, h3] at e2
          simp only [List.nil_append, dec] at e2
          omega
        · exact h3

theorem dec_pos (ini : List UInt8) (last : UInt8) (h : last.toNat ≠ 0) (h2 : last.toNat < 128) : 0 < dec (ini ++ [last]) := by
  induction ini with
  | nil => simp only [List.nil_append, dec]; omega
  | cons b l ih => simp only [List.cons_append, dec]; omega

theorem vb_dec (ini : List UInt8) (last : UInt8) (h1 : ∀ b ∈ ini, 128 ≤ b.toNat) (h2 : last.toNat < 128) (h3 : ini = [] ∨ last.toNat ≠ 0) : vb (dec (ini ++ [last])) = ini ++ [last] := by
  induction ini with
  | nil =>
    simp only [List.nil_append, dec]
    rw [vb_lo (by omega)]
    have : last.toNat % 128 + 128 * 0 = last.toNat := by omega
    rw [this, toNat_ofNat]
  | cons b l ih =>
    have hl : last.toNat ≠ 0 := by
      rcases h3 with h3 | h3
      · cases h3
      · exact h3
    have hp := dec_pos l last hl h2
    have hb := h1 b (List.mem_cons_self ..)
    have hb2 := b.toNat_lt
    simp only [List.cons_append, dec]
    rw [vb_hi (by omega), show (b.toNat % 128 + 128 * dec (l ++ [last])) % 128 + 128 = b.toNat by omega, show (b.toNat % 128 + 128 * dec (l ++ [last])) / 128 = dec (l ++ [last]) by omega, toNat_ofNat, ih (fun x hx => h1 x (List.mem_cons_of_mem _ hx)) (.inr hl)]

theorem dec_append (l m : List UInt8) : dec (l ++ m) = dec l + 128 ^ l.length * dec m := by
  induction l with
  | nil => simp [dec]
  | cons b l ih =>
    simp only [List.cons_append, dec, ih, List.length_cons, Nat.pow_succ]
    rw [Nat.mul_add, Nat.mul_comm (128 ^ l.length) 128, Nat.mul_assoc]
    omega

theorem dec_lt (l : List UInt8) : dec l < 128 ^ l.length := by
  induction l with
  | nil => simp [dec]
  | cons b l ih =>
    simp only [dec, List.length_cons, Nat.pow_succ]
    omega

/-- A row of bytes with the mark on all but the last is a number's of 64 bits exactly if its last byte is none too many. -/
theorem vb_iff (ini : List UInt8) (last : UInt8) (h1 : ∀ b ∈ ini, 128 ≤ b.toNat) (h2 : last.toNat < 128) (hl : ini.length ≤ 9) :
    vb (dec (ini ++ [last]) % 18446744073709551616) = ini ++ [last] ↔ (ini = [] ∨ last.toNat ≠ 0) ∧ (ini.length < 9 ∨ last.toNat ≤ 1) := by
  have ea : dec (ini ++ [last]) = dec ini + 128 ^ ini.length * last.toNat := by
    rw [dec_append]
    simp only [dec]
    rw [show last.toNat % 128 + 128 * 0 = last.toNat by omega]
  have hd := dec_lt ini
  constructor
  · intro e
    refine ⟨?_, ?_⟩
    · obtain ⟨ini2, last2, e2, _, _, h3⟩ := vb_shape (dec (ini ++ [last]) % 18446744073709551616)
      rw [e] at e2
      obtain ⟨rfl, e3⟩ := List.append_inj' e2 rfl
      obtain rfl := (List.cons.inj e3).1
      exact h3
    · by_cases h9 : ini.length < 9
      · exact .inl h9
      · right
        have e9 : ini.length = 9 := by omega
        have e2 := congrArg dec e
        rw [dec_vb, ea, e9] at e2
        have := Nat.mod_lt (dec ini + 128 ^ 9 * last.toNat) (show 0 < 18446744073709551616 by decide)
        rw [e2] at this
        have e128 : 128 ^ 9 = 9223372036854775808 := by decide
        rw [e128] at this
        omega
  · rintro ⟨h3, h4⟩
    have hlt : dec (ini ++ [last]) < 18446744073709551616 := by
      rcases h4 with h4 | h4
      · have h5 := dec_lt (ini ++ [last])
        rw [List.length_append, List.length_singleton] at h5
        have h6 : 128 ^ (ini.length + 1) ≤ 128 ^ 9 := Nat.pow_le_pow_right (by decide) (by omega)
        have e128 : 128 ^ 9 = 9223372036854775808 := by decide
        omega
      · have h6 : 128 ^ ini.length ≤ 128 ^ 9 := Nat.pow_le_pow_right (by decide) hl
        have e128 : 128 ^ 9 = 9223372036854775808 := by decide
        have h7 : 128 ^ ini.length * last.toNat ≤ 128 ^ 9 * 1 := Nat.mul_le_mul h6 h4
        rw [ea]
        omega
    rw [Nat.mod_eq_of_lt hlt]
    exact vb_dec ini last h1 h2 h3

theorem vb_len (n : Nat) (h : n ≤ 70000) : 1 ≤ (vb n).length ∧ (vb n).length ≤ 3 := by
  unfold vb
  rw [List.length_map]
  have := vbytes_len 2 n (by omega)
  refine ⟨?_, this⟩
  rw [vbytes]; split <;> simp

theorem vb_one {n : Nat} (h : n < 128) : (vb n).length = 1 := by rw [vb_lo h]; rfl

end Go.Proofs.YtbanbeaemmlikaaDoor.Px
