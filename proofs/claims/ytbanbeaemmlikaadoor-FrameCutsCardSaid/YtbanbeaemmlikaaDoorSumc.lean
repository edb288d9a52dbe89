/- What is proved: that the program's checksum and the document's one come to the same fold over bytes, given rounds enough. Condition: texts below 2^62 bytes, lists below 2^62 texts. -/
import Derived.Test.YtbanbeaemmlikaaDoorPx1
import Derived.Test.YtbanbeaemmlikaaDoorCrc
import Derived.Laws.BitsAllLaws
namespace Go.Proofs.YtbanbeaemmlikaaDoor.Px
open Go.RowKit Go.Proofs.YtbanbeaemmlikaaDoorW.PrintWords Go.Proofs.YtbanbeaemmlikaaDoorW.PrintLast
open Go.Proofs.YtbanbeaemmlikaaDoor.Crc

def val (c : W) : Int := (c.toNat : Int)
theorem val_lt (c : W) : 0 ≤ val c ∧ val c < 4294967296 := ⟨Int.natCast_nonneg _, by unfold val; have := c.isLt; omega⟩
theorem val_inj {a b : W} (h : val a = val b) : a = b := BitVec.eq_of_toNat_eq (by unfold val at h; omega)

theorem val_xor (a b : W) : Go.bits .xor .u32 (val a) (val b) = val (a ^^^ b) := by
  unfold val
  rw [u32_xor_nat _ _ a.isLt b.isLt, BitVec.toNat_xor]
theorem val_and (a b : W) : Go.bits .and .u32 (val a) (val b) = val (a &&& b) := by
  unfold val
  rw [u32_and_nat _ _ a.isLt b.isLt, BitVec.toNat_and]
theorem val_not (a : W) : Go.bits .xor .u32 (-1) (val a) = val (~~~a) := by
  show IntKind.u32.wrap (((BitVec.ofInt 32 (-1)) ^^^ (BitVec.ofInt 32 (val a))).toNat : Int) = _
  have e1 : (BitVec.ofInt 32 (-1)) = BitVec.allOnes 32 := by decide
  have e2 : BitVec.ofInt 32 (val a) = a := by unfold val; rw [BitVec.ofInt_natCast, BitVec.ofNat_toNat, BitVec.setWidth_eq]
  rw [e1, e2, BitVec.allOnes_xor, IntKind.wrap_u32]
  have := (~~~a).isLt
  unfold val
  omega
theorem val_shr4 (a : W) : val a / (16 : Int) = val (a >>> 4) := by
  unfold val
  rw [BitVec.toNat_ushiftRight, Nat.shiftRight_eq_div_pow]
  omega
theorem val_shr1 (a : W) : val a / (2 : Int) = val (a >>> 1) := by
  unfold val
  rw [BitVec.toNat_ushiftRight, Nat.shiftRight_eq_div_pow]
  omega
theorem val_15 : (15 : Int) = val 15#32 := rfl
theorem val_poly : (2197175160 : Int) = val poly := rfl
theorem val_odd (a : W) : (Int.tmod (val a) 2 = 1) ↔ a.getLsbD 0 = true := by
  have h : Int.tmod (val a) 2 = val a % (2 : Int) := Int.tmod_eq_emod_of_nonneg (val_lt a).1
  rw [h, BitVec.getLsbD, Nat.testBit_zero]
  unfold val
  simp
  omega
theorem val_half (a : W) : (Int.tdiv (val a) 2) % (4294967296 : Int) = val (a >>> 1) := by
  have h : Int.tdiv (val a) 2 = val a / (2 : Int) := Int.tdiv_eq_ediv_of_nonneg (val_lt a).1
  rw [h, val_shr1]
  have := val_lt (a >>> 1)
  omega

theorem bt_val (s : ByteArray) (i : Nat) (h : i < s.data.toList.length) : bt s (i : Int) % (4294967296 : Int) = val (ofByte s.data.toList[i]) := by
  have e : bt s (i : Int) = (s.data.toList[i].toNat : Int) := by
    rw [Array.length_toList] at h
    have h2 : i < s.size := h
    have := bt_at s (i : Int) (by simpa using h2)
    rw [← this]
    simp only [Int.toNat_natCast]
    rw [Array.getElem_toList]
    rfl
  rw [e]
  have := s.data.toList[i].toNat_lt
  unfold val ofByte
  rw [BitVec.toNat_ofNat]
  omega

theorem tab_val (a : W) : tabAt (val (a &&& 15#32)) = val (tab (a &&& 15#32).toNat) := by
  have h := low_lt a
  have : ∀ i : Fin 16, tabL.getD i.val 0 = val (tab i.val) := by decide
  exact this ⟨_, h⟩
theorem low_val (a : W) : 0 ≤ val (a &&& 15#32) ∧ val (a &&& 15#32) < 16 := ⟨Int.natCast_nonneg _, by have := low_lt a; unfold val; omega⟩

theorem wrap_succ {i : Int} (h0 : 0 ≤ i) (h : i < 9223372036854775807) : wrap64 (i + 1) = i + 1 := by
  unfold wrap64
  omega

abbrev bs (s : ByteArray) : List UInt8 := s.data.toList
theorem bs_len (s : ByteArray) : (bs s).length = s.size := data_length s

theorem bstep_nib (c : W) (b : UInt8) : nib (nib (c ^^^ ofByte b)) = bstep c b := by
  rw [nib_eq, nib_eq, ← stps_add]; rfl

theorem behind_l1 (s : ByteArray) (l : List ByteArray) (n j : Int) (hs : s.size < 9223372036854775807) (d : Nat) : ∀ (k i : Nat) (c : W), i + d = s.size → d < k →
    sum_behind.l1 k (val c) s l n j (s.size : Int) (i : Int) = sum_behind.l0 (k - d - 1) (val (crc c ((bs s).drop i))) l n (wrap64 (j + 1)) := by
  induction d with
  | zero =>
    intro k i c hi hk
    obtain ⟨k, rfl⟩ : ∃ m, k = m + 1 := ⟨k - 1, by omega⟩
    rw [sum_behind.l1, if_neg (by omega), List.drop_eq_nil_of_le (by rw [bs_len]; omega)]
    rfl
  | succ d ih =>
    intro k i c hi hk
    obtain ⟨k, rfl⟩ : ∃ m, k = m + 1 := ⟨k - 1, by omega⟩
    have hl : i < (bs s).length := by rw [bs_len]; omega
    rw [sum_behind.l1, if_pos (by omega), if_pos (by omega), if_pos (by omega)]
    rw [bt_val s i hl, val_xor, val_15, val_and, if_pos (low_val _).1, if_pos (low_val _).2, val_shr4, tab_val, val_xor, val_and]
    have e1 : ∀ a : W, (a >>> 4) ^^^ tab (a &&& 15#32).toNat = nib a := fun _ => rfl
    rw [e1, if_pos (low_val _).1, if_pos (low_val _).2, val_shr4, tab_val, val_xor, e1, bstep_nib, wrap_succ (by omega) (by omega)]
    rw [show ((i : Int) + 1) = ((i + 1 : Nat) : Int) by omega, ih k (i + 1) _ (by omega) (by omega), List.drop_eq_getElem_cons hl]
    congr 1
    omega

/-- The bytes of some texts. -/
def cat (l : List ByteArray) : List UInt8 := l.flatMap bs
def rounds (l : List ByteArray) : Nat := (l.map fun s => s.size + 2).sum

theorem rounds_cons (s : ByteArray) (l : List ByteArray) : rounds (s :: l) = s.size + 2 + rounds l := by simp [rounds]

theorem behind_l0 (l : List ByteArray) (hl : l.length < 9223372036854775807) (hs : ∀ s ∈ l, s.size < 9223372036854775807) (d : Nat) : ∀ (k j : Nat) (c : W), j + d = l.length → rounds (l.drop j) < k →
    sum_behind.l0 k (val c) l (l.length : Int) (j : Int) = some (val (crc c (cat (l.drop j)))) := by
  induction d with
  | zero =>
    intro k j c hj hk
    obtain ⟨k, rfl⟩ : ∃ m, k = m + 1 := ⟨k - 1, by omega⟩
    rw [sum_behind.l0, if_neg (by omega), List.drop_eq_nil_of_le (by omega)]
    rfl
  | succ d ih =>
    intro k j c hj hk
    obtain ⟨k, rfl⟩ : ∃ m, k = m + 1 := ⟨k - 1, by omega⟩
    have hlt : j < l.length := by omega
    have e : l.drop j = l[j] :: l.drop (j + 1) := List.drop_eq_getElem_cons hlt
    have er : rdOf ByteArray.empty l (j : Int) = l[j] := by simp [rdOf, hlt]
    rw [e] at hk ⊢
    have hk2 : l[j].size + 2 + rounds (l.drop (j + 1)) < k + 1 := by rw [rounds_cons] at hk; exact hk
    have hsz := hs l[j] (List.getElem_mem hlt)
    rw [sum_behind.l0, if_pos (by omega), if_pos (by omega), if_pos (by omega), er]
    have h1 := behind_l1 l[j] l (l.length : Int) (j : Int) hsz l[j].size k 0 c (by omega) (by omega)
    rw [show ((0 : Nat) : Int) = 0 from rfl] at h1
    rw [h1, List.drop_zero, wrap_succ (by omega) (by omega), show ((j : Int) + 1) = ((j + 1 : Nat) : Int) by omega, ih _ (j + 1) _ (by omega) (by omega)]
    have e2 : cat (l[j] :: l.drop (j + 1)) = bs l[j] ++ cat (l.drop (j + 1)) := rfl
    rw [e2, crc_append]

/-- The sum. -/
def ones : W := BitVec.allOnes 32
def sumW (b : List UInt8) : W := ~~~ crc ones b

theorem behind_told (k : Nat) (c : W) (l : List ByteArray) (hl : l.length < 9223372036854775807) (hs : ∀ s ∈ l, s.size < 9223372036854775807) (hk : rounds l < k) : sum_behind.f k (val c) l = some (val (crc c (cat l))) := by
  have h := behind_l0 l hl hs l.length k 0 c (by omega) (by simpa using hk)
  unfold sum_behind.f
  simpa using h

theorem of_told (k : Nat) (l : List ByteArray) (hl : l.length < 9223372036854775807) (hs : ∀ s ∈ l, s.size < 9223372036854775807) (hk : rounds l < k) : sum_Of.f k l = some (val (sumW (cat l))) := by
  have h := behind_told k ones l hl hs hk
  unfold sum_Of.f
  rw [show (4294967295 : Int) = val ones from rfl, h]
  simp only [Option.bind_some]
  rw [val_not]
  rfl

theorem of_one (k : Nat) (s : ByteArray) (hs : s.size < 9223372036854775807) (hk : s.size + 2 < k) : sum_Of.f k [s] = some (val (sumW (bs s))) := by
  have h := of_told k [s] (by simp) (by simpa using hs) (by simpa [rounds] using hk)
  simpa [cat] using h

/-! ### The document's -/
theorem ref_l1 (s : ByteArray) (j : Int) (m : Nat) : ∀ (k : Nat) (c : W), m ≤ 8 → m < k →
    heliographref01_Of.l1 k s (val c) j ((8 - m : Nat) : Int) = heliographref01_Of.l0 (k - m - 1) s (val (stps m c)) (wrap64 (j + 1)) := by
  induction m with
  | zero =>
    intro k c _ hk
    obtain ⟨k, rfl⟩ : ∃ m, k = m + 1 := ⟨k - 1, by omega⟩
    rw [heliographref01_Of.l1, if_neg (by omega)]
    rfl
  | succ m ih =>
    intro k c hm hk
    obtain ⟨k, rfl⟩ : ∃ m, k = m + 1 := ⟨k - 1, by omega⟩
    rw [heliographref01_Of.l1, if_pos (by omega)]
    have ew : wrap64 (((8 - (m + 1) : Nat) : Int) + 1) = ((8 - m : Nat) : Int) := by rw [wrap_succ (by omega) (by omega)]; omega
    rw [ew, val_half, val_poly, val_xor]
    have e2 : k + 1 - (m + 1) - 1 = k - m - 1 := by omega
    rw [e2]
    by_cases h : c.getLsbD 0 = true
    · rw [if_pos ((val_odd c).2 h), ih k _ (by omega) (by omega)]
      simp only [stps, stp, h, if_true]
    · rw [if_neg (fun x => h ((val_odd c).1 x)), ih k _ (by omega) (by omega)]
      simp only [stps, stp, h]
      simp

theorem ref_l0 (s : ByteArray) (hs : s.size < 9223372036854775807) (d : Nat) : ∀ (k i : Nat) (c : W), i + d = s.size → 10 * d < k →
    heliographref01_Of.l0 k s (val c) (i : Int) = some (val (~~~ crc c ((bs s).drop i))) := by
  induction d with
  | zero =>
    intro k i c hi hk
    obtain ⟨k, rfl⟩ : ∃ m, k = m + 1 := ⟨k - 1, by omega⟩
    rw [heliographref01_Of.l0, if_neg (by omega), List.drop_eq_nil_of_le (by rw [bs_len]; omega), val_not]
    rfl
  | succ d ih =>
    intro k i c hi hk
    obtain ⟨k, rfl⟩ : ∃ m, k = m + 1 := ⟨k - 1, by omega⟩
    have hl : i < (bs s).length := by rw [bs_len]; omega
    rw [heliographref01_Of.l0, if_pos (by omega), if_pos (by omega), bt_val s i hl, val_xor]
    have h1 := ref_l1 s (i : Int) 8 k (c ^^^ ofByte (bs s)[i]) (Nat.le_refl _) (by omega)
    rw [show ((8 - 8 : Nat) : Int) = 0 from rfl] at h1
    rw [h1, wrap_succ (by omega) (by omega), show ((i : Int) + 1) = ((i + 1 : Nat) : Int) by omega, ih _ (i + 1) _ (by omega) (by omega), List.drop_eq_getElem_cons hl]
    rfl

theorem ref_told (k : Nat) (s : ByteArray) (hs : s.size < 9223372036854775807) (hk : 10 * s.size < k) : heliographref01_Of.f k s = some (val (sumW (bs s))) := by
  have h := ref_l0 s hs s.size k 0 ones (by omega) hk
  unfold heliographref01_Of.f
  rw [show (4294967295 : Int) = val ones from rfl]
  simpa [sumW] using h

end Go.Proofs.YtbanbeaemmlikaaDoor.Px
