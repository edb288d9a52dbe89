/- What is proved: what frame.Get and its parts come to, as a plain reading of the bytes at a place. Condition: the text is below 2^62 bytes, and rounds enough. -/
import Derived.Test.YtbanbeaemmlikaaDoorVint
import Derived.Test.YtbanbeaemmlikaaDoorPx8
import Derived.Test.YtbanbeaemmlikaaDoorSumG
namespace Go.Proofs.YtbanbeaemmlikaaDoor.Px
open Go.RowKit Go.Proofs.YtbanbeaemmlikaaDoorW.PrintWords Go.Proofs.YtbanbeaemmlikaaDoorW.PrintLast Go.Proofs.YtbanbeaemmlikaaDoorW.PrintMore
open Go.Proofs.YtbanbeaemmlikaaDoor.Crc

theorem bt_drop (s : ByteArray) (p i : Nat) (h : p + i < s.size) (hi : i < ((bs s).drop p).length) : bt s (((p + i : Nat) : Nat) : Int) = (((bs s).drop p)[i].toNat : Int) := by
  rw [List.getElem_drop]
  rw [← bt_at s ((p + i : Nat) : Int) (by omega)]
  simp only [Int.toNat_natCast]
  rw [Array.getElem_toList]
  rfl

theorem wrap_id {x : Int} (h0 : -9223372036854775808 ≤ x) (h1 : x < 9223372036854775808) : wrap64 x = x := by
  unfold wrap64
  omega

/-- A byte's seven bits, put ahead of what is there. -/
theorem acc_step (x b i : Nat) (hb : b < 256) (hi : i ≤ 9) (hx : x < 128 ^ i) (h9 : i < 9 ∨ b % 128 ≤ 1) :
    Go.bits .or .u64 (x : Int) (shl .u64 (IntKind.u64.wrap (Go.bits .andNot .u8 (b : Int) 128)) ((7 * i : Nat) : Int)) = ((x + 128 ^ i * (b % 128) : Nat) : Int) := by
  have e1 : Go.bits .andNot .u8 (b : Int) 128 = ((b % 128 : Nat) : Int) := by
    rw [show (128 : Int) = ((128 : Nat) : Int) from rfl, u8_andNot_nat b 128 hb (by omega)]
    have := Nat.and_two_pow_sub_one_eq_mod b 7
    rw [show 255 - 128 = 2 ^ 7 - 1 from rfl, this]
  have e128 : 128 ^ i = 2 ^ (7 * i) := by rw [Nat.pow_mul]
  have hm : 2 ^ (7 * i) * (b % 128) < 18446744073709551616 := by
    rcases h9 with h9 | h9
    · have h1 : 2 ^ (7 * i) ≤ 2 ^ 56 := Nat.pow_le_pow_right (by decide) (by omega)
      have h2 : 2 ^ (7 * i) * (b % 128) ≤ 2 ^ 56 * 127 := Nat.mul_le_mul h1 (by omega)
      omega
    · have h1 : 2 ^ (7 * i) ≤ 2 ^ 63 := Nat.pow_le_pow_right (by decide) (by omega)
      have h2 : 2 ^ (7 * i) * (b % 128) ≤ 2 ^ 63 * 1 := Nat.mul_le_mul h1 h9
      omega
  have e2 : shl .u64 (IntKind.u64.wrap ((b % 128 : Nat) : Int)) ((7 * i : Nat) : Int) = ((2 ^ (7 * i) * (b % 128) : Nat) : Int) := by
    unfold shl
    have hw : ∀ n : Nat, n < 18446744073709551616 → IntKind.u64.wrap (n : Int) = (n : Int) := by
      intro n hn
      simp [IntKind.wrap, IntKind.bits, IntKind.signed]
      omega
    have hmin : min (((7 * i : Nat) : Int)).toNat IntKind.u64.bits = 7 * i := by
      rw [Int.toNat_natCast]
      exact Nat.min_eq_left (by show 7 * i ≤ 64; omega)
    rw [hmin, hw _ (by omega), show ((b % 128 : Nat) : Int) * 2 ^ (7 * i) = ((2 ^ (7 * i) * (b % 128) : Nat) : Int) by
      rw [Int.natCast_mul, Int.mul_comm]; congr 1, hw _ hm]
  rw [e1, e2, u64_or_nat x _ (Nat.lt_trans hx (by rw [e128]; have : 2 ^ (7 * i) ≤ 2 ^ 63 := Nat.pow_le_pow_right (by decide) (by omega); omega)) hm]
  rw [e128] at hx ⊢
  rw [Nat.or_comm, ← Nat.two_pow_add_eq_or_of_lt hx, Nat.add_comm]

/-- A place where a number ends: the bytes ahead with the mark, and the last one. -/
structure Low (r ini : List UInt8) (last : UInt8) (rest : List UInt8) : Prop where
  e : r = ini ++ last :: rest
  hi : ∀ b ∈ ini, 128 ≤ b.toNat
  lo : last.toNat < 128

theorem low_or (r : List UInt8) : (∀ b ∈ r, 128 ≤ b.toNat) ∨ ∃ ini last rest, Low r ini last rest := by
  induction r with
  | nil => left; simp
  | cons b r ih =>
    by_cases h : b.toNat < 128
    · exact .inr ⟨[], b, r, rfl, by simp, h⟩
    · rcases ih with h2 | ⟨ini, last, rest, e, h1, h3⟩
      · left
        intro x hx
        rcases List.mem_cons.1 hx with rfl | hx
        · omega
        · exact h2 x hx
      · refine .inr ⟨b :: ini, last, rest, by rw [e]; rfl, ?_, h3⟩
        intro x hx
        rcases List.mem_cons.1 hx with rfl | hx
        · omega
        · exact h1 x hx

theorem low_high {r ini : List UInt8} {last : UInt8} {rest : List UInt8} (h : Low r ini last rest) (h2 : ∀ b ∈ r, 128 ≤ b.toNat) : False := by
  have := h2 last (by rw [h.e]; simp)
  have := h.lo
  omega

/-- Is the number none too long? -/
def Fine (ini : List UInt8) (last : UInt8) : Prop := (ini = [] ∨ last.toNat ≠ 0) ∧ (ini.length < 9 ∨ last.toNat ≤ 1)
instance (ini : List UInt8) (last : UInt8) : Decidable (Fine ini last) := by unfold Fine; exact inferInstance

theorem vget_hi (s : ByteArray) (p i k : Nat) (x b : Int) (hs : p + i < s.size) (hb : s.size < 4611686018427387904) (h10 : i < 10) (eb : bt s (((p + i : Nat) : Nat) : Int) = b) (h : ¬ b < 128) :
    vint_Get.l0 (k + 2) s (p : Int) x (i : Nat) = vint_Get.l0 k s (p : Int) (Go.bits .or .u64 x (shl .u64 (IntKind.u64.wrap (Go.bits .andNot .u8 b 128)) ((7 * i : Nat) : Int))) ((i + 1 : Nat) : Int) := by
  have w1 : wrap64 ((p : Int) + (i : Nat)) = ((p + i : Nat) : Int) := by rw [wrap_id (by omega) (by omega)]; omega
  have w2 : wrap64 (((i : Nat) : Int) + 1) = ((i + 1 : Nat) : Int) := by rw [wrap_id (by omega) (by omega)]; omega
  have w5 : wrap64 (7 * ((i : Nat) : Int)) = ((7 * i : Nat) : Int) := by rw [wrap_id (by omega) (by omega)]; omega
  have n1 : ¬ ((i : Nat) : Int) = 10 := by omega
  have n2 : ¬ (((p + i : Nat) : Int) ≥ (s.size : Int)) := by omega
  have n3 : (0 : Int) ≤ ((p + i : Nat) : Int) := by omega
  have n4 : ((p + i : Nat) : Int) < (s.size : Int) := by omega
  have n5 : (0 : Int) ≤ ((7 * i : Nat) : Int) := by omega
  rw [vint_Get.l0, if_neg n1, w1, decide_eq_false n2, vint_Get.j2, if_neg (by simp), w1, if_pos n3, if_pos n4, w5, if_pos n5, eb, if_neg h, w2]

theorem vget_lo (s : ByteArray) (p i k : Nat) (x b : Int) (hs : p + i < s.size) (hb : s.size < 4611686018427387904) (h10 : i < 10) (eb : bt s (((p + i : Nat) : Nat) : Int) = b) (h : b < 128) (y : Int) (ey : (i = 9 → b ≤ 1) → Go.bits .or .u64 x (shl .u64 (IntKind.u64.wrap (Go.bits .andNot .u8 b 128)) ((7 * i : Nat) : Int)) = y) :
    vint_Get.l0 (k + 2) s (p : Int) x (i : Nat) = some (if (0 < i ∧ b = 0) ∨ (i = 9 ∧ 1 < b) then (0, 0, 10) else (y, ((p + i + 1 : Nat) : Int), 0)) := by
  have w1 : wrap64 ((p : Int) + (i : Nat)) = ((p + i : Nat) : Int) := by rw [wrap_id (by omega) (by omega)]; omega
  have w2 : wrap64 (((i : Nat) : Int) + 1) = ((i + 1 : Nat) : Int) := by rw [wrap_id (by omega) (by omega)]; omega
  have w3 : wrap64 ((p : Int) + ((i + 1 : Nat) : Int)) = ((p + i + 1 : Nat) : Int) := by rw [wrap_id (by omega) (by omega)]; omega
  have w4 : wrap64 (((p + i + 1 : Nat) : Int) - 1) = ((p + i : Nat) : Int) := by rw [wrap_id (by omega) (by omega)]; omega
  have w5 : wrap64 (7 * ((i : Nat) : Int)) = ((7 * i : Nat) : Int) := by rw [wrap_id (by omega) (by omega)]; omega
  have n1 : ¬ ((i : Nat) : Int) = 10 := by omega
  have n2 : ¬ (((p + i : Nat) : Int) ≥ (s.size : Int)) := by omega
  have n3 : (0 : Int) ≤ ((p + i : Nat) : Int) := by omega
  have n4 : ((p + i : Nat) : Int) < (s.size : Int) := by omega
  have n5 : (0 : Int) ≤ ((7 * i : Nat) : Int) := by omega
  rw [vint_Get.l0, if_neg n1, w1, decide_eq_false n2, vint_Get.j2, if_neg (by simp), w1, if_pos n3, if_pos n4, w5, if_pos n5, eb, if_pos h, w2, w3, w4, if_pos n3, if_pos n4, eb]
  clear w1 w2 w3 w4 w5 n1 n2 n3 n4 n5 eb hs hb
  by_cases c1 : 0 < i
  · rw [if_pos (by omega)]
    by_cases c2 : b = 0
    · rw [if_pos c2, if_pos (.inl ⟨c1, c2⟩)]
    · rw [if_neg c2]
      by_cases c3 : i = 9
      · rw [if_pos (by omega)]
        by_cases c4 : 1 < b
        · rw [if_pos c4, if_pos (.inr ⟨c3, c4⟩)]
        · rw [if_neg c4, if_neg (by rintro (⟨_, h⟩ | ⟨_, h⟩) <;> omega), ey (fun _ => by omega)]
      · rw [if_neg (by omega), if_neg (by rintro (⟨_, h⟩ | ⟨h, _⟩) <;> omega), ey (fun h => absurd h c3)]
  · rw [if_neg (by omega), if_neg (by omega), if_neg (by rintro (⟨h, _⟩ | ⟨h, _⟩) <;> omega), ey (fun h => by omega)]

section
variable (s : ByteArray) (p : Nat) (hs : s.size < 4611686018427387904)
include hs

theorem vget_loop (ini : List UInt8) (last : UInt8) (rest : List UInt8) (hr : Low ((bs s).drop p) ini last rest) (h9 : ini.length ≤ 9) (d : Nat) : ∀ (k i : Nat), i + d = ini.length → 2 * d + 2 ≤ k →
    vint_Get.l0 k s (p : Int) (dec (ini.take i) : Nat) (i : Nat) = some (if Fine ini last then (((dec (ini ++ [last]) : Nat) : Int), ((p + ini.length + 1 : Nat) : Int), 0) else (0, 0, 10)) := by
  have hlen : ini.length + 1 ≤ ((bs s).drop p).length := by rw [hr.e]; simp
  have hlen2 : ((bs s).drop p).length = s.size - p := by rw [List.length_drop, bs_len]
  have hps : p + ini.length < s.size := by omega
  have hlo := hr.lo
  induction d with
  | zero =>
    intro k i hi hk
    obtain ⟨k, rfl⟩ : ∃ m, k = m + 2 := ⟨k - 2, by omega⟩
    obtain rfl : i = ini.length := by omega
    have eb : bt s (((p + ini.length : Nat) : Nat) : Int) = (last.toNat : Int) := by
      rw [bt_drop s p ini.length (by omega) (by omega)]
      have : ((bs s).drop p)[ini.length]'(by omega) = last := by simp [hr.e]
      rw [this]
    have hlast := last.toNat_lt
    have hd := dec_lt ini
    have ea : dec (ini ++ [last]) = dec ini + 128 ^ ini.length * (last.toNat % 128) := by
      rw [dec_append]; simp only [dec]; congr 2
    rw [List.take_length, vget_lo s p ini.length k _ _ hps hs (by omega) eb (by omega) ((dec (ini ++ [last]) : Nat) : Int) (fun h => by rw [ea]; exact acc_step _ _ _ hlast h9 hd (by clear eb hd ea; omega))]
    clear eb hd ea
    congr 1
    by_cases hf : Fine ini last
    · rw [if_pos hf, if_neg]
      rintro (⟨h1, h2⟩ | ⟨h1, h2⟩)
      · exact hf.1.elim (fun e => by rw [e] at h1; simp at h1) (fun e => e (by omega))
      · exact hf.2.elim (fun e => by omega) (fun e => by omega)
    · rw [if_neg hf, if_pos]
      by_cases h1 : ini = [] ∨ last.toNat ≠ 0
      · right
        by_cases h2 : ini.length < 9 ∨ last.toNat ≤ 1
        · exact absurd ⟨h1, h2⟩ hf
        · omega
      · left
        refine ⟨List.length_pos_iff.2 (fun e => h1 (.inl e)), ?_⟩
        have : last.toNat = 0 := by
          rcases Nat.eq_zero_or_pos last.toNat with h | h
          · exact h
          · exact absurd (.inr (by omega)) h1
        omega
  | succ d ih =>
    intro k i hi hk
    obtain ⟨k, rfl⟩ : ∃ m, k = m + 2 := ⟨k - 2, by omega⟩
    have hil : i < ini.length := by omega
    have eb : bt s (((p + i : Nat) : Nat) : Int) = (ini[i].toNat : Int) := by
      rw [bt_drop s p i (by omega) (by omega)]
      have : ((bs s).drop p)[i]'(by omega) = ini[i] := by simp [hr.e, hil]
      rw [this]
    have hb := hr.hi ini[i] (List.getElem_mem hil)
    have hb2 := ini[i].toNat_lt
    have hd := dec_lt (ini.take i)
    rw [List.length_take, Nat.min_eq_left (by omega)] at hd
    have et : ini.take (i + 1) = ini.take i ++ [ini[i]] := by rw [List.take_succ_eq_append_getElem hil]
    have ea : dec (ini.take (i + 1)) = dec (ini.take i) + 128 ^ i * (ini[i].toNat % 128) := by
      rw [et, dec_append, List.length_take, Nat.min_eq_left (by omega)]; simp only [dec]; congr 2
    have i8 : i < 9 := by omega
    rw [vget_hi s p i k _ _ (by omega) hs (by omega) eb (by omega), acc_step _ _ _ hb2 (by omega) hd (.inl i8), ← ea]
    exact ih k (i + 1) (by omega) (by omega)

theorem vget_high (n : Nat) (hn : n = min 10 (s.size - p)) (hp : p ≤ s.size) (hh : ∀ j, j < n → 128 ≤ bt s (((p + j : Nat) : Nat) : Int)) (d : Nat) : ∀ (k i : Nat) (x : Int), i + d = n → 2 * d + 2 ≤ k → vint_Get.l0 k s (p : Int) x (i : Nat) = some (0, 0, 10) := by
  induction d with
  | zero =>
    intro k i x hi hk
    obtain ⟨k, rfl⟩ : ∃ m, k = m + 2 := ⟨k - 2, by omega⟩
    rw [vint_Get.l0]
    by_cases h : (i : Int) = 10
    · rw [if_pos h, vint_Get.j2, if_pos rfl]
    · have w1 : wrap64 ((p : Int) + (i : Nat)) = ((p + i : Nat) : Int) := by rw [wrap_id (by omega) (by omega)]; omega
      rw [if_neg h, w1, decide_eq_true (by omega), vint_Get.j2, if_pos rfl]
  | succ d ih =>
    intro k i x hi hk
    obtain ⟨k, rfl⟩ : ∃ m, k = m + 2 := ⟨k - 2, by omega⟩
    have hb := hh i (by omega)
    rw [vget_hi s p i k _ _ (by omega) hs (by omega) rfl (by omega)]
    exact ih k (i + 1) _ (by omega) (by omega)
end

end Go.Proofs.YtbanbeaemmlikaaDoor.Px
