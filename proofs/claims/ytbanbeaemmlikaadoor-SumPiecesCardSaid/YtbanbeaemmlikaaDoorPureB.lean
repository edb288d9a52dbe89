/- What is proved: that the statement SumPieces, as a plain function, answers true at every input. No condition. -/
import Derived.Test.YtbanbeaemmlikaaDoorPureA
namespace Go.Proofs.YtbanbeaemmlikaaDoor.Px
open Go.RowKit Go.Proofs.YtbanbeaemmlikaaDoorW.PrintWords Go.Proofs.YtbanbeaemmlikaaDoorW.PrintLast
open Go.Proofs.YtbanbeaemmlikaaDoor.Crc

theorem write_told (k : Nat) (b : List UInt8) (n : Int) (s : ByteArray) (hs : s.size < 9223372036854775807) (h0 : 0 ≤ n) (hn : n + s.size < 9223372036854775807) (hk : s.size + 2 < k) :
    sum_Sum_Write.f k (val (sumW b)) n s = some ((s.size : Int), val (sumW (b ++ bs s)), n + (s.size : Int)) := by
  unfold sum_Sum_Write.f
  rw [val_not, behind_told k _ [s] (by simp) (by simpa using hs) (by simpa [rounds] using hk)]
  simp only [Option.bind_some]
  have e1 : wrap64 (n + (s.size : Int)) = n + (s.size : Int) := by unfold wrap64; omega
  have e2 : ~~~ (sumW b) = crc ones b := by unfold sumW; rw [BitVec.not_not]
  rw [val_not, e1, e2]
  simp [sumW, crc_append, cat]

theorem bs_append (a b : ByteArray) : bs (a ++ b) = bs a ++ bs b := by
  simp [bs, ByteArray.data_append]

theorem pieces_loop (l : List ByteArray) (more : ByteArray) (hm : more.size ≤ 200) (m : Nat) : ∀ (k i : Nat) (P : List ByteArray) (all : ByteArray), i + m = 20 → 5000 + 2 * m < k → P.length = i → bs all = cat P → all.size ≤ 200 * i → rounds P ≤ 202 * i → (∀ s ∈ P, s.size ≤ 200) →
    heliographlaw01_SumPieces.l0 k l more true P all (i : Int) (val (sumW (cat P))) (all.size : Int) = some true := by
  induction m with
  | zero =>
    intro k i P all hi hk hP hb ha hr hs
    obtain ⟨k, rfl⟩ : ∃ m, k = m + 2 := ⟨k - 2, by omega⟩
    have fin : heliographlaw01_SumPieces.j1 (k + 1) l more true P all (i : Int) false (val (sumW (cat P))) (all.size : Int) = some true := by
      rw [heliographlaw01_SumPieces.j1, if_neg (by simp)]
      simp only [sum_Sum_Value.f, sum_Sum_Reset.f, sum_Sum_Len.f, Option.bind_some]
      have e0 : (0 : Int) = val (sumW []) := by decide
      have hw := write_told k [] 0 more (by omega) (by omega) (by omega) (by omega)
      rw [← e0] at hw
      rw [hw]
      simp only [Option.bind_some, if_true]
      rw [of_told k P (by omega) (fun s h => by have := hs s h; omega) (by omega)]
      simp only [Option.bind_some, if_true]
      rw [of_one k all (by omega) (by omega), of_one k more (by omega) (by omega)]
      simp only [Option.bind_some]
      rw [hb]
      simp
    rw [heliographlaw01_SumPieces.l0]
    by_cases h : (i : Int) < (l.length : Int)
    · rw [if_pos h, decide_eq_false (by omega)]; exact fin
    · rw [if_neg h]; exact fin
  | succ m ih =>
    intro k i P all hi hk hP hb ha hr hs
    obtain ⟨k, rfl⟩ : ∃ m, k = m + 2 := ⟨k - 2, by omega⟩
    rw [heliographlaw01_SumPieces.l0]
    by_cases h : (i : Int) < (l.length : Int)
    · rw [if_pos h, decide_eq_true (by omega), heliographlaw01_SumPieces.j1, if_pos rfl, if_pos (by omega), if_pos h]
      rw [show (200 : Int) = ((200 : Nat) : Int) from rfl, short01]
      simp only [Option.bind_some]
      obtain ⟨s, es⟩ : ∃ s, s = cut (rdOf ByteArray.empty l (i : Int)) 200 := ⟨_, rfl⟩
      have hsz : s.size ≤ 200 := by rw [es]; exact cut_size _ _
      rw [← es, if_pos (by omega), if_pos (by omega), write_told k _ _ s (by omega) (by omega) (by omega) (by omega)]
      simp only [sum_Sum_Len.f, Option.bind_some]
      rw [if_pos trivial, if_pos trivial, wrap_succ (by omega) (by omega), show ((i : Int) + 1) = ((i + 1 : Nat) : Int) by omega]
      have e1 : cat P ++ bs s = cat (P ++ [s]) := by simp [cat]
      have e2 : ((all.size : Int) + (s.size : Int)) = ((all ++ s).size : Int) := by rw [ByteArray.size_append]; omega
      rw [e1, e2]
      refine ih k (i + 1) (P ++ [s]) (all ++ s) (by omega) (by omega) (by simp [hP]) (by rw [bs_append, hb, e1]) (by rw [ByteArray.size_append]; omega) ?_ ?_
      · have : rounds (P ++ [s]) = rounds P + (s.size + 2) := by simp [rounds]
        omega
      · intro x hx
        rcases List.mem_append.1 hx with h | h
        · exact hs x h
        · rw [List.mem_singleton.1 h]; exact hsz
    · rw [if_neg h]
      have := ih
      rw [heliographlaw01_SumPieces.j1, if_neg (by simp)]
      simp only [sum_Sum_Value.f, sum_Sum_Reset.f, sum_Sum_Len.f, Option.bind_some]
      have e0 : (0 : Int) = val (sumW []) := by decide
      have hw := write_told k [] 0 more (by omega) (by omega) (by omega) (by omega)
      rw [← e0] at hw
      rw [hw]
      simp only [Option.bind_some, if_true]
      rw [of_told k P (by omega) (fun s h => by have := hs s h; omega) (by omega)]
      simp only [Option.bind_some, if_true]
      rw [of_one k all (by omega) (by omega), of_one k more (by omega) (by omega)]
      simp only [Option.bind_some]
      rw [hb]
      simp

theorem SumPieces_pure (l0 : List ByteArray) (a1 : ByteArray) : ∃ k, heliographlaw01_SumPieces.f k l0 a1 = some true := by
  obtain ⟨K, hK⟩ : ∃ K, K = 6000 := ⟨_, rfl⟩
  refine ⟨K, ?_⟩
  unfold heliographlaw01_SumPieces.f
  rw [awake01 _ (by omega)]
  simp only [Option.bind_some]
  rw [show (200 : Int) = ((200 : Nat) : Int) from rfl, short01]
  simp only [sum_New.f, Option.bind_some]
  have h := pieces_loop l0 (cut a1 200) (cut_size _ _) 20 K 0 [] ⟨#[]⟩ (by omega) (by omega) rfl rfl (by decide) (by decide) (by simp)
  have e0 : (0 : Int) = val (sumW (cat [])) := by decide
  rw [← e0] at h
  exact h

end Go.Proofs.YtbanbeaemmlikaaDoor.Px
