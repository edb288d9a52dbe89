/- What is proved: what the sums' functions answer, over the plain sums, for the statements of the sums. No condition but what each theorem says. -/
import Derived.Test.YtbanbeaemmlikaaDoorSumc
namespace Go.Proofs.YtbanbeaemmlikaaDoor.Px
open Go.RowKit Go.Proofs.YtbanbeaemmlikaaDoorW.PrintWords Go.Proofs.YtbanbeaemmlikaaDoorW.PrintLast
open Go.Proofs.YtbanbeaemmlikaaDoor.Crc

theorem awake01 (k : Nat) (hk : 40 ≤ k) : heliographlaw01_awake.f k = some true :=
  at_rounds (fun k => heliographlaw01_awake.mono k) hk (by kernel_rfl)

def cut (s : ByteArray) (n : Nat) : ByteArray := if s.size > n then s.extract 0 n else s
theorem cut_size (s : ByteArray) (n : Nat) : (cut s n).size ≤ n := by
  unfold cut
  split
  · rw [ByteArray.size_extract]; omega
  · omega
theorem short01 (s : ByteArray) (n : Nat) : heliographlaw01_short.f s (n : Int) = some (cut s n) := by
  unfold heliographlaw01_short.f cut
  by_cases h : s.size > n
  · rw [if_pos (by omega), if_pos (by omega), if_pos (by omega), if_pos h]
    rfl
  · rw [if_neg (by omega), if_neg h]

/-- The four bytes behind. -/
def tail4 (c : W) : ByteArray := strOfNums [(val c / 16777216) % 256, (val c / 65536) % 256, (val c / 256) % 256, (val c) % 256]
theorem tail4_size (c : W) : (tail4 c).size = 4 := rfl
def sealedW (s : ByteArray) : ByteArray := s ++ tail4 (sumW (bs s))
theorem sealedW_size (s : ByteArray) : (sealedW s).size = s.size + 4 := by
  unfold sealedW
  rw [ByteArray.size_append, tail4_size]

theorem sealed_told (k : Nat) (s : ByteArray) (hs : s.size < 9223372036854775800) (hk : s.size + 2 < k) : sum_Sealed.f k s = some (sealedW s) := by
  unfold sum_Sealed.f
  rw [of_one k s (by omega) hk]
  simp only [Option.bind_some]
  have e : (strOfNums [val (sumW (bs s)) / 16777216 % 256, val (sumW (bs s)) / 65536 % 256, val (sumW (bs s)) / 256 % 256, val (sumW (bs s)) % 256]).size = 4 := tail4_size _
  rw [if_pos (by rw [e]; omega)]
  rfl

/-- What is opened. -/
def openW (s : ByteArray) : ByteArray × Bool := if 4 ≤ s.size ∧ sealedW (s.extract 0 (s.size - 4)) = s then (s.extract 0 (s.size - 4), true) else (⟨#[]⟩, false)

theorem toList_inj {a b : ByteArray} : a.toList = b.toList ↔ a = b := by
  constructor
  · intro h
    rw [ByteArray.toList_eq, ByteArray.toList_eq] at h
    exact WideShapes.bytes_inj h
  · rintro rfl; rfl

theorem wrap4 (s : ByteArray) (hs : s.size < 9223372036854775800) : wrap64 ((s.size : Int) - 4) = (s.size : Int) - 4 := by unfold wrap64; omega

theorem open_told (k : Nat) (s : ByteArray) (hs : s.size < 9223372036854775800) (hk : s.size + 2 < k) : sum_Open.f k s = some (openW s) := by
  unfold sum_Open.f openW
  rw [wrap4 s hs]
  by_cases h4 : s.size < 4
  · rw [if_pos (by omega), if_neg (by omega)]
  · have e : ((s.size : Int) - 4).toNat = s.size - 4 := by omega
    have e2 : (s.extract 0 (s.size - 4)).size = s.size - 4 := by rw [ByteArray.size_extract]; omega
    rw [if_neg (by omega), if_pos (by omega), if_pos (by omega), e, sealed_told k _ (by omega) (by omega)]
    simp only [Option.bind_some]
    by_cases hq : sealedW (s.extract 0 (s.size - 4)) = s
    · rw [if_pos (toList_inj.2 hq), if_pos ⟨by omega, hq⟩]
    · rw [if_neg (fun h => hq (toList_inj.1 h)), if_neg (fun h => hq h.2)]

theorem extract_left (s t : ByteArray) : (s ++ t).extract 0 s.size = s := by
  apply WideShapes.bytes_inj
  rw [ByteArray.data_extract, ByteArray.data_append, Array.toList_extract, Array.toList_append]
  have : s.size = s.data.toList.length := (data_length s).symm
  rw [this]
  simp [List.extract]

theorem open_sealed (s : ByteArray) : openW (sealedW s) = (s, true) := by
  unfold openW
  rw [sealedW_size, Nat.add_sub_cancel]
  have e : (sealedW s).extract 0 s.size = s := extract_left s _
  rw [e, if_pos ⟨by omega, rfl⟩]

end Go.Proofs.YtbanbeaemmlikaaDoor.Px
