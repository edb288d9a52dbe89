/- What is proved: what '[]byte(s)', a store and 'string(b)' come to, for the statements that turn a byte of a text. No condition but what each theorem says. -/
import Derived.Test.YtbanbeaemmlikaaDoorSumG
import Derived.Laws.IdiomStrings
namespace Go.Proofs.YtbanbeaemmlikaaDoor.Px
open Go.RowKit Go.Proofs.YtbanbeaemmlikaaDoorW.PrintWords Go.Proofs.YtbanbeaemmlikaaDoorW.PrintLast
open Go.Proofs.YtbanbeaemmlikaaDoor.Crc

/-- A text, one byte of it another. -/
def turnAt (s : ByteArray) (n : Nat) (x : Int) : ByteArray := ⟨((bs s).set n (UInt8.ofNat x.toNat)).toArray⟩
theorem turnAt_bs (s : ByteArray) (n : Nat) (x : Int) : bs (turnAt s n x) = (bs s).set n (UInt8.ofNat x.toNat) := by simp [turnAt, bs]
theorem turnAt_size (s : ByteArray) (n : Nat) (x : Int) : (turnAt s n x).size = s.size := by
  rw [← bs_len, turnAt_bs, List.length_set, bs_len]

theorem bt_bytes (a : ByteArray) (j : Nat) (h : j < (bs a).length) : bt a (j : Int) = ((bs a)[j].toNat : Int) := by
  have h2 : j < a.size := by rw [← bs_len]; exact h
  rw [← bt_at a (j : Int) (by omega)]
  simp only [Int.toNat_natCast]
  rw [Array.getElem_toList]
  rfl
theorem byte_nat {x : Int} (h0 : 0 ≤ x) (h255 : x < 256) : ((UInt8.ofNat x.toNat).toNat : Int) = x := by
  rw [UInt8.toNat_ofNat']
  omega
theorem turn_cell (W : World) (t : ByteArray) (n : Nat) (hn : n < t.size) : (Lib.bytesWorld W 5 t).cell? ⟨W.heap.size, n, none⟩ = some (.int .u8 (bt t (n : Int))) := by
  rw [Lib.bytesWorld_cell W 5 t n hn, ← rd_bytesOf]
  have h' : n < t.data.toList.length := by rw [data_length]; exact hn
  simp [rd, bytesOf, List.getD_eq_getElem?_getD, List.getElem?_eq_getElem h']
theorem turn_frozen (W : World) (t : ByteArray) (n : Nat) (hn : n < t.size) : (Lib.bytesWorld W 5 t).frozen? ⟨W.heap.size, n, none⟩ = false := by
  have h : n < (Lib.bytesCells W 5 t).size := by
    unfold Lib.bytesCells
    rw [Array.size_append, Array.size_map]
    have : t.data.size = t.size := rfl
    omega
  unfold World.frozen?
  rw [Lib.bytesWorld_at_new]
  simp
  omega
theorem turn_back (W : World) (t : ByteArray) (n cap : Nat) (hn : n < t.size) (x : Int) (h0 : 0 ≤ x) (h255 : x < 256) :
    (convert 32 9 (.slice (some ⟨W.heap.size, 0, none⟩) t.size cap)).run Tryd.prog ((Lib.bytesWorld W 5 t).setCell ⟨W.heap.size, n, none⟩ (.int .u8 x)) = .ok (.string (turnAt t n x)) ((Lib.bytesWorld W 5 t).setCell ⟨W.heap.size, n, none⟩ (.int .u8 x)) := by
  have hz : ((bs t).set n (UInt8.ofNat x.toNat)).length = t.size := by rw [List.length_set, bs_len]
  have h := run_convert_bytes_back (P := Tryd.prog) ((Lib.bytesWorld W 5 t).setCell ⟨W.heap.size, n, none⟩ (.int .u8 x)) 32 9 5 ⟨W.heap.size, 0, none⟩ cap ((bs t).set n (UInt8.ofNat x.toNat)) Tryd.underlying32 Tryd.underlying5 Tryd.underlying9 (fun j hj => by
    rw [hz] at hj
    rw [add_plain]
    by_cases e : j = n
    · subst e
      rw [World.cell?_setCell_same _ _ _ (turn_cell W t j hn), List.getElem_set_self, byte_nat h0 h255]
    · rw [World.cell?_setCell_other _ _ _ _ (by intro h; injection h with _ h; exact e h.symm), turn_cell W t j hj, List.getElem_set_ne (fun h => e h.symm), bt_bytes t j (by rw [bs_len]; exact hj)])
  rw [hz] at h
  exact h
end Go.Proofs.YtbanbeaemmlikaaDoor.Px
