/- What is proved: what the frames' functions answer, for the statements of the frames. No condition but what each theorem says. -/
import Derived.Test.YtbanbeaemmlikaaDoorRgetc
import Derived.Test.YtbanbeaemmlikaaDoorPx16
namespace Go.Proofs.YtbanbeaemmlikaaDoor.Px
open Go.RowKit Go.Proofs.YtbanbeaemmlikaaDoorW.PrintWords Go.Proofs.YtbanbeaemmlikaaDoorW.PrintLast Go.Proofs.YtbanbeaemmlikaaDoorW.PrintMore
open Go.Proofs.YtbanbeaemmlikaaDoor.Crc

theorem awake05 (k : Nat) (hk : 60 ≤ k) : heliographlaw05_awake.f k = some true :=
  at_rounds (fun k => heliographlaw05_awake.mono k) hk (by kernel_rfl)

theorem short05 (s : ByteArray) (n : Nat) : heliographlaw05_short.f s (n : Int) = some (cut s n) := by
  unfold heliographlaw05_short.f cut
  by_cases h : s.size > n
  · rw [if_pos (by omega), if_pos (by omega), if_pos (by omega), if_pos h]
    rfl
  · rw [if_neg (by omega), if_neg h]

/-- A whole body ends behind its place, in the text. -/
theorem getF_whole (s : ByteArray) (p : Nat) (b : ByteArray) (n : Int) (hp : p ≤ s.size) (h : getF s p = (b, n, 0)) : ∃ p' : Nat, n = (p' : Int) ∧ p < p' ∧ p' ≤ s.size := by
  have hl : ((bs s).drop p).length = s.size - p := by rw [List.length_drop, bs_len]
  have h31 : ∀ st : Int, st ≠ 0 → none3 p st = (b, n, 0) → False := fun st h0 e => h0 (congrArg (fun x => x.2.2) e)
  rcases low_or ((bs s).drop p) with hh | ⟨ini, last, rest, hr⟩
  · by_cases hpe : p = s.size
    · subst hpe; rw [getF_end] at h; exact (h31 1 (by decide) h).elim
    · rw [getF_high hh (by omega)] at h
      split at h
      · exact (h31 2 (by decide) h).elim
      · exact (h31 3 (by decide) h).elim
  · rw [getF_low hr] at h
    unfold getN at h
    split at h
    · exact (h31 3 (by decide) h).elim
    · split at h
      · exact (h31 2 (by decide) h).elim
      · split at h
        · rename_i h1 h2 h3
          refine ⟨p + ini.length + 1 + dec (ini ++ [last]) + 4, (congrArg (fun x => x.2.1) h).symm, by omega, ?_⟩
          rw [hr.e] at hl
          simp at hl
          omega
        · exact (h31 3 (by decide) h).elim

theorem scan_same (s : ByteArray) (hs : s.size < 4611686018427387904) (d : Nat) : ∀ (k p : Nat) (acc : List ByteArray), s.size - p ≤ d → p ≤ s.size → d + 700400 ≤ k → acc.length + d < 8796093022208 →
    ∃ (out : List ByteArray) (n st : Int), frame_Scan.l0 k s acc (p : Int) = some (out, n, st) ∧ heliographref05_Scan.l0 k s acc (p : Int) = some (out, n, st) ∧ out.length ≤ acc.length + d := by
  induction d with
  | zero =>
    intro k p acc hd hp hk ha
    obtain ⟨k, rfl⟩ : ∃ m, k = m + 1 := ⟨k - 1, by omega⟩
    obtain rfl : p = s.size := by omega
    refine ⟨acc, (s.size : Int), 1, ?_, ?_, by omega⟩
    · rw [frame_Scan.l0, fget_told s s.size k hs (Nat.le_refl _) (by omega), Option.bind_some, getF_end]
      unfold none3
      dsimp only
      rw [if_neg (by decide)]
    · rw [heliographref05_Scan.l0, rfget_told s s.size k hs (Nat.le_refl _) (by omega), Option.bind_some, getF_end]
      unfold none3
      dsimp only
      rw [if_neg (by decide)]
  | succ d ih =>
    intro k p acc hd hp hk ha
    obtain ⟨k, rfl⟩ : ∃ m, k = m + 1 := ⟨k - 1, by omega⟩
    rw [frame_Scan.l0, heliographref05_Scan.l0, fget_told s p k hs hp (by omega), rfget_told s p k hs hp (by omega), Option.bind_some, Option.bind_some]
    obtain ⟨⟨b, n, st⟩, hg⟩ : ∃ x, x = getF s p := ⟨_, rfl⟩
    rw [← hg]
    dsimp only
    by_cases h0 : st = 0
    · subst h0
      obtain ⟨p', rfl, h1, h2⟩ := getF_whole s p b n hp hg.symm
      rw [if_pos rfl, if_pos rfl, if_pos (by omega), if_pos (by omega)]
      obtain ⟨out, n, st, e1, e2, e3⟩ := ih k p' (acc ++ [b]) (by omega) h2 (by omega) (by simp; omega)
      exact ⟨out, n, st, e1, e2, by simp at e3; omega⟩
    · rw [if_neg h0, if_neg h0]
      exact ⟨acc, (p : Int), st, rfl, rfl, by omega⟩

theorem same_loop (l : List ByteArray) (hl : l.length < 4611686018427387904) (d : Nat) : ∀ (k i : Nat), i + d = l.length → d < k → heliographlaw05_same.l0 k l l (i : Int) = some true := by
  induction d with
  | zero =>
    intro k i hi hk
    obtain ⟨k, rfl⟩ : ∃ m, k = m + 1 := ⟨k - 1, by omega⟩
    rw [heliographlaw05_same.l0, if_neg (by omega)]
  | succ d ih =>
    intro k i hi hk
    obtain ⟨k, rfl⟩ : ∃ m, k = m + 1 := ⟨k - 1, by omega⟩
    rw [heliographlaw05_same.l0, if_pos (by omega), if_pos (by omega), if_pos (by omega), if_pos rfl, wrap_succ (by omega) (by omega), show ((i : Int) + 1) = ((i + 1 : Nat) : Int) by omega]
    exact ih k (i + 1) (by omega) (by omega)
theorem same_refl (k : Nat) (l : List ByteArray) (hl : l.length < 4611686018427387904) (hk : l.length < k) : heliographlaw05_same.f k l l = some true := by
  unfold heliographlaw05_same.f
  rw [if_pos rfl]
  exact same_loop l hl l.length k 0 (by omega) hk

theorem gets_both (s : ByteArray) (a : Int) (k : Nat) (hs : s.size < 4611686018427387904) (hk : 700400 ≤ k) : ∃ x, frame_Get.f k s a = some x ∧ heliographref05_Get.f k s a = some x := by
  by_cases h : a < 0 ∨ (s.size : Int) < a
  · exact ⟨_, fget_out s a k h (by omega), rfget_out s a k h (by omega)⟩
  · obtain ⟨p, rfl⟩ : ∃ p : Nat, a = (p : Int) := ⟨a.toNat, by omega⟩
    exact ⟨_, fget_told s p k hs (by omega) (by omega), rfget_told s p k hs (by omega) (by omega)⟩

end Go.Proofs.YtbanbeaemmlikaaDoor.Px
