/- What is proved: that SumAlone answers true at every input. Condition: the table is as it was laid. -/
import Derived.Test.YtbanbeaemmlikaaDoorPureG
import Derived.Test.YtbanbeaemmlikaaDoorWalo
namespace Go.Proofs.YtbanbeaemmlikaaDoor.Px
open Go.RowKit Go.Proofs.YtbanbeaemmlikaaDoorW.PrintWords Go.Proofs.YtbanbeaemmlikaaDoorW.PrintLast
open Go.Proofs.YtbanbeaemmlikaaDoor.Crc

/-- The place that a whole number comes to. -/
theorem place_at (a1 : Int) (h1 : (Lit.int .i64 a1).wf = true) (z : Nat) (hz : 0 < z) :
    ∃ n : Nat, n < z ∧ ((decide (a1 < 0) = true ∧ Int.tmod (wrap64 (-wrap64 (a1 + 1))) (z : Int) = (n : Int)) ∨ (decide (a1 < 0) = false ∧ Int.tmod a1 (z : Int) = (n : Int))) := by
  have hw : -9223372036854775808 ≤ a1 ∧ a1 < 9223372036854775808 := by
    have h : IntKind.i64.min ≤ a1 ∧ a1 ≤ 9223372036854775807 := by simpa [Lit.wf] using h1
    have e1 : IntKind.i64.min = -9223372036854775808 := by decide
    omega
  have go : ∀ m : Nat, ∃ n : Nat, n < z ∧ Int.tmod (m : Int) (z : Int) = (n : Int) := fun m => ⟨m % z, Nat.mod_lt _ hz, by rw [Int.tmod_eq_emod_of_nonneg (by omega)]; omega⟩
  by_cases h : a1 < 0
  · obtain ⟨m, hm⟩ : ∃ m : Nat, wrap64 (-wrap64 (a1 + 1)) = (m : Int) := ⟨(-(a1 + 1)).toNat, by unfold wrap64; omega⟩
    obtain ⟨n, h2, h3⟩ := go m
    exact ⟨n, h2, .inl ⟨decide_eq_true h, by rw [hm]; exact h3⟩⟩
  · obtain ⟨m, rfl⟩ : ∃ m : Nat, a1 = (m : Int) := ⟨a1.toNat, by omega⟩
    obtain ⟨n, h2, h3⟩ := go m
    exact ⟨n, h2, .inr ⟨decide_eq_false h, h3⟩⟩

theorem SumAlone_all (a0 : ByteArray) (a1 : Int) (h1 : (Lit.int .i64 a1).wf = true) (a2 : Int) (h2 : (Lit.int .u8 a2).wf = true) (w : World) (hT : TabIn w) :
    Calls Tryd.prog 6 #[.string a0, .int .i64 a1, .int .u8 a2] w fun e w' => e = .returned (.bool true) ∧ Below w.heap.size w w' := by
  have hv : 0 ≤ a2 ∧ a2 < 256 := by
    have h : IntKind.u8.min ≤ a2 ∧ a2 ≤ IntKind.u8.max := by simpa [Lit.wf] using h2
    have e1 : IntKind.u8.min = 0 := by decide
    have e2 : IntKind.u8.max = 255 := by decide
    omega
  have hs := cut_size a0 500
  have hz := sealedW_size (cut a0 500)
  obtain ⟨n, hn, hA⟩ := place_at a1 h1 (sealedW (cut a0 500)).size (by omega)
  have hn' : n < (bs (sealedW (cut a0 500))).length := by rw [bs_len]; exact hn
  have hbt := bt_bs _ n hn'
  have hB : ∃ x, (((a2 == 0) = true ∧ Go.bits .xor .u8 (bt (sealedW (cut a0 500)) (n : Int)) 1 = x) ∨ ((a2 == 0) = false ∧ Go.bits .xor .u8 (bt (sealedW (cut a0 500)) (n : Int)) a2 = x)) ∧ 0 ≤ x ∧ x < 256 ∧ x ≠ bt (sealedW (cut a0 500)) (n : Int) := by
    rw [hbt]
    by_cases h : a2 = 0
    · obtain ⟨x, e1, e2, e3, e4⟩ := xor_byte (bs (sealedW (cut a0 500)))[n] 1 (by omega) (by omega)
      exact ⟨x, .inl ⟨by simp [h], e1⟩, e2, e3, e4⟩
    · obtain ⟨x, e1, e2, e3, e4⟩ := xor_byte (bs (sealedW (cut a0 500)))[n] a2 (by omega) (by omega)
      exact ⟨x, .inr ⟨by simp [h], e1⟩, e2, e3, e4⟩
  obtain ⟨x, hB, hx0, hx1, hx⟩ := hB
  obtain ⟨K, hK⟩ : ∃ K, K = 30000 := ⟨_, rfl⟩
  have g4 : sum_Open.f K (sealedW (cut a0 500)) = some (cut a0 500, true) := by rw [open_told _ _ (by omega) (by omega), open_sealed]
  have g5 : sum_Open.f K (turnAt (sealedW (cut a0 500)) n x) = some (⟨#[]⟩, false) := by
    have := turnAt_size (sealedW (cut a0 500)) n x
    rw [open_told _ _ (by omega) (by omega), open_turned _ n x hn hx0 hx1 hx]
  exact SumAlone_walk a0 (sealedW (cut a0 500)) (cut a0 500) a1 n a2 x w hT K (awake01 _ (by omega)) (by rw [show (500 : Int) = ((500 : Nat) : Int) from rfl, short01]) (sealed_told _ _ (by omega) (by omega)) g4 hz hs hA hB hn hx0 hx1 g5 (extract_left _ _)

end Go.Proofs.YtbanbeaemmlikaaDoor.Px
