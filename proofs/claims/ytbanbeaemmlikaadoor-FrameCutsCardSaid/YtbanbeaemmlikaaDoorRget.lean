/- What is proved: that the document's readers and writers of numbers and frames come to the same plain reading. Condition: the text is below 2^62 bytes, and rounds enough. -/
import Derived.Test.YtbanbeaemmlikaaDoorFgetb
import Derived.Test.YtbanbeaemmlikaaDoorPx10
namespace Go.Proofs.YtbanbeaemmlikaaDoor.Px
open Go.RowKit Go.Proofs.YtbanbeaemmlikaaDoorW.PrintWords Go.Proofs.YtbanbeaemmlikaaDoorW.PrintLast Go.Proofs.YtbanbeaemmlikaaDoorW.PrintMore
open Go.Proofs.YtbanbeaemmlikaaDoor.Crc

theorem strOfNums_one (n : Nat) : strOfNums [((n : Nat) : Int)] = ⟨[UInt8.ofNat n].toArray⟩ := by
  apply WideShapes.bytes_inj
  simp [strOfNums]

theorem rput_loop (m : Nat) : ∀ (k n : Nat) (acc : ByteArray), n < 128 ^ (m + 1) → n < 18446744073709551616 → m < k → acc.size + m < 1000 →
    heliographref03_Put.l0 k (n : Int) acc = some (acc ++ ⟨(vb n).toArray⟩) := by
  induction m with
  | zero =>
    intro k n acc h _ hk ha
    obtain ⟨k, rfl⟩ : ∃ m, k = m + 1 := ⟨k - 1, by omega⟩
    have e1 : ((n : Nat) : Int) % 256 = ((n : Nat) : Int) := by omega
    have e2 : (strOfNums [((n : Nat) : Int)]) = ⟨[UInt8.ofNat n].toArray⟩ := strOfNums_one n
    have e3 : (⟨[UInt8.ofNat n].toArray⟩ : ByteArray).size = 1 := rfl
    rw [heliographref03_Put.l0, if_neg (by omega)]
    simp only [Option.bind_some]
    rw [e1, e2, e3, if_pos (by omega), vb_lo (by omega)]
  | succ m ih =>
    intro k n acc h h64 hk ha
    obtain ⟨k, rfl⟩ : ∃ m, k = m + 1 := ⟨k - 1, by omega⟩
    rw [heliographref03_Put.l0]
    by_cases hlo : n < 128
    · have e1 : ((n : Nat) : Int) % 256 = ((n : Nat) : Int) := by omega
      have e2 : (strOfNums [((n : Nat) : Int)]) = ⟨[UInt8.ofNat n].toArray⟩ := strOfNums_one n
      have e3 : (⟨[UInt8.ofNat n].toArray⟩ : ByteArray).size = 1 := rfl
      rw [if_neg (by omega)]
      simp only [Option.bind_some]
      rw [e1, e2, e3, if_pos (by omega), vb_lo (by omega)]
    · have t1 : Int.tmod (n : Int) 128 = ((n % 128 : Nat) : Int) := by rw [Int.tmod_eq_emod_of_nonneg (by omega)]; omega
      have t2 : Int.tdiv (n : Int) 128 = ((n / 128 : Nat) : Int) := by rw [Int.tdiv_eq_ediv_of_nonneg (by omega)]; omega
      have t3 : ((n % 128 : Nat) : Int) + 128 = ((n % 128 + 128 : Nat) : Int) := by omega
      have e1 : ((n % 128 + 128 : Nat) : Int) % 256 = ((n % 128 + 128 : Nat) : Int) := by omega
      have e2 : (strOfNums [((n % 128 + 128 : Nat) : Int)]) = ⟨[UInt8.ofNat (n % 128 + 128)].toArray⟩ := strOfNums_one _
      have e3 : (⟨[UInt8.ofNat (n % 128 + 128)].toArray⟩ : ByteArray).size = 1 := rfl
      rw [if_pos (by omega), t1, t2, t3, u64_id (by omega), u64_id (by omega), e1]
      simp only [Option.bind_some]
      rw [e2, e3, if_pos (by omega), ih k (n / 128) _ (by rw [Nat.div_lt_iff_lt_mul (by decide), ← Nat.pow_succ]; exact h) (by omega) (by omega) (by rw [ByteArray.size_append, e3]; omega), vb_hi hlo]
      congr 1
      apply WideShapes.bytes_inj
      simp [ByteArray.data_append]

theorem rput_told (k n : Nat) (h : n < 18446744073709551616) (hk : 12 ≤ k) : heliographref03_Put.f k (n : Int) = some ⟨(vb n).toArray⟩ := by
  have e : 128 ^ (9 + 1) = 1180591620717411303424 := by decide
  have := rput_loop 9 k n ⟨#[]⟩ (by rw [e]; omega) h (by omega) (by decide)
  unfold heliographref03_Put.f
  rw [this]
  congr 1

/-- A body with its length and sum. -/
def frameW (b : ByteArray) : ByteArray := (⟨(vb b.size).toArray⟩ ++ b) ++ tail4 (sumW (bs b))
theorem vb_size (n : Nat) : (⟨(vb n).toArray⟩ : ByteArray).size = (vb n).length := by rw [← bs_len, bs_mk]
theorem frameW_bs (b : ByteArray) : bs (frameW b) = vb b.size ++ (bs b ++ bs (tail4 (sumW (bs b)))) := by
  unfold frameW
  rw [bs_cat, bs_cat, bs_mk, List.append_assoc]
theorem frameW_size (b : ByteArray) : (frameW b).size = (vb b.size).length + b.size + 4 := by
  unfold frameW
  rw [ByteArray.size_append, ByteArray.size_append, vb_size, tail4_size]

theorem rframe_told (k : Nat) (b : ByteArray) (hb : b.size ≤ 70000) (hk : 700100 ≤ k) : heliographref05_Put.f k b = some (frameW b, 0) := by
  have hv := vb_len b.size hb
  unfold heliographref05_Put.f
  rw [if_neg (by omega), ref_told k b (by omega) (by omega)]
  simp only [Option.bind_some]
  rw [u64_id (by omega), rput_told k _ (by omega) (by omega)]
  simp only [Option.bind_some]
  have e : (strOfNums [val (sumW (bs b)) / 16777216 % 256, val (sumW (bs b)) / 65536 % 256, val (sumW (bs b)) / 256 % 256, val (sumW (bs b)) % 256]).size = 4 := tail4_size _
  rw [if_pos (by rw [vb_size]; omega), if_pos (by rw [vb_size, e]; omega)]
  rfl
theorem rframe_great (k : Nat) (b : ByteArray) (hb : 70000 < b.size) : heliographref05_Put.f k b = some (⟨#[]⟩, 11) := by
  unfold heliographref05_Put.f
  rw [if_pos (by omega)]

theorem vput_told (n : Nat) (h : n < 18446744073709551616) : vint_Put.f (n : Int) = some ⟨(vb n).toArray⟩ := by
  unfold vint_Put.f
  rw [if_pos (by omega)]
  rfl
theorem frame_told (k : Nat) (b : ByteArray) (hb : b.size ≤ 70000) (hk : 70100 ≤ k) : frame_Put.f k b = some (frameW b, 0) := by
  have hv := vb_len b.size hb
  unfold frame_Put.f
  rw [if_neg (by omega), u64_id (by omega), vput_told _ (by omega), sealed_told k b (by omega) (by omega)]
  simp only [Option.bind_some]
  rw [if_pos (by rw [vb_size, sealedW_size]; omega)]
  congr 2
  unfold sealedW frameW
  apply WideShapes.bytes_inj
  simp [ByteArray.data_append]
theorem frame_great (k : Nat) (b : ByteArray) (hb : 70000 < b.size) : frame_Put.f k b = some (⟨#[]⟩, 11) := by
  unfold frame_Put.f
  rw [if_pos (by omega)]

end Go.Proofs.YtbanbeaemmlikaaDoor.Px
