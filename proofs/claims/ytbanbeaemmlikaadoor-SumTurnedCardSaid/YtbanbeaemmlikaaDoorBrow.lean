/- What is proved: what the row of '[]byte(s)' holds, and how a store and 'string(b)' find it. No condition but what each theorem says. -/
import Derived.Test.YtbanbeaemmlikaaDoorTurn
namespace Go.Proofs.YtbanbeaemmlikaaDoor.Px
open Go.RowKit Go.Proofs.YtbanbeaemmlikaaDoorW.PrintWords Go.Proofs.YtbanbeaemmlikaaDoorW.PrintLast
open Go.Proofs.YtbanbeaemmlikaaDoor.Crc

/-- The row g holds the bytes of s; a store into them is not barred. -/
def BRow (g : Nat) (s : ByteArray) (w : World) : Prop :=
  (∀ j, j < s.size → w.cell? ⟨g, j, none⟩ = some (.int .u8 (bt s (j : Int)))) ∧ (∀ j, j < s.size → w.frozen? ⟨g, j, none⟩ = false)
theorem brow_conv (W : World) (t : ByteArray) : BRow W.heap.size t (Lib.bytesWorld W 5 t) := ⟨fun j hj => turn_cell W t j hj, fun j hj => turn_frozen W t j hj⟩
theorem bt_turnAt (s : ByteArray) (n j : Nat) (x : Int) (hj : j < s.size) (h0 : 0 ≤ x) (h1 : x < 256) : bt (turnAt s n x) (j : Int) = if j = n then x else bt s (j : Int) := by
  have hz : (bs (turnAt s n x)).length = s.size := by rw [turnAt_bs, List.length_set, bs_len]
  rw [bt_bytes _ j (by omega), bt_bytes s j (by rw [bs_len]; exact hj)]
  simp only [turnAt_bs]
  by_cases h : j = n
  · subst h
    rw [if_pos rfl, List.getElem_set_self, byte_nat h0 h1]
  · rw [if_neg h, List.getElem_set_ne (fun e => h e.symm)]
theorem brow_set {g : Nat} {s : ByteArray} {w : World} (h : BRow g s w) (n : Nat) (hn : n < s.size) (x : Int) (h0 : 0 ≤ x) (h1 : x < 256) : BRow g (turnAt s n x) (w.setCell ⟨g, n, none⟩ (.int .u8 x)) := by
  refine ⟨fun j hj => ?_, fun j hj => ?_⟩
  · rw [turnAt_size] at hj
    rw [bt_turnAt s n j x hj h0 h1]
    by_cases e : j = n
    · subst e
      rw [World.cell?_setCell_same _ _ _ (h.1 j hn), if_pos rfl]
    · rw [World.cell?_setCell_other _ _ _ _ (by intro e2; injection e2 with _ e2; exact e e2.symm), if_neg e, h.1 j hj]
  · rw [turnAt_size] at hj
    rw [World.frozen?_setCell]
    exact h.2 j hj
theorem brow_back {g : Nat} {s : ByteArray} {w : World} (h : BRow g s w) (cap : Nat) : (convert 32 9 (.slice (some ⟨g, 0, none⟩) s.size cap)).run Tryd.prog w = .ok (.string s) w := by
  have h2 := run_convert_bytes_back (P := Tryd.prog) w 32 9 5 ⟨g, 0, none⟩ cap (bs s) Tryd.underlying32 Tryd.underlying5 Tryd.underlying9 (fun j hj => by
    rw [bs_len] at hj
    rw [add_plain, h.1 j hj, bt_bytes s j (by rw [bs_len]; exact hj)])
  rw [bs_len] at h2
  rw [h2]
end Go.Proofs.YtbanbeaemmlikaaDoor.Px
