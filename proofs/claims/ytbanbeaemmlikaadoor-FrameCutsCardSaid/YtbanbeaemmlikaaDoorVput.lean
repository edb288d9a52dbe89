/- What is proved: that package vint's Put comes to the bytes of a number, seven bits a byte. Condition: the number is one of 64 bits. -/
import Derived.Test.YtbanbeaemmlikaaDoorPx0
namespace Go.Proofs.YtbanbeaemmlikaaDoor.Px
open Go.RowKit Go.Proofs.YtbanbeaemmlikaaDoorW.PrintWords Go.Proofs.YtbanbeaemmlikaaDoorW.PrintLast

/-- A number's bytes. -/
def vbytes (n : Nat) : List Nat := if n < 128 then [n] else (n % 128 + 128) :: vbytes (n / 128)
termination_by n
decreasing_by omega

theorem vbytes_lt (n : Nat) : ∀ b ∈ vbytes n, b < 256 := by
  induction n using Nat.strongRecOn with
  | _ n ih =>
    intro b hb
    rw [vbytes] at hb
    split at hb
    · simp at hb; omega
    · rcases List.mem_cons.1 hb with h | h
      · omega
      · exact ih (n / 128) (by omega) b h

theorem vbytes_len (k : Nat) : ∀ n : Nat, n < 128 ^ (k + 1) → (vbytes n).length ≤ k + 1 := by
  induction k with
  | zero => intro n h; rw [vbytes, if_pos (by omega)]; simp
  | succ k ih =>
    intro n h
    rw [vbytes]
    split
    · simp
    · have := ih (n / 128) (by rw [Nat.div_lt_iff_lt_mul (by decide)]; rw [Nat.pow_succ] at h; exact h)
      simp; omega

def vint_Put.f (a0 : Int) : Option ByteArray := if 0 ≤ a0 ∧ a0 < 18446744073709551616 then some ⟨((vbytes a0.toNat).map UInt8.ofNat).toArray⟩ else none

/-- The array while it is filled: in block B, the first bytes told. -/
structure Filled (B : Nat) (pre : List Nat) (w : World) : Prop where
  at_ : ∃ cs : Array Value, w.heap[B]? = some (.cells cs 80 (0, 0)) ∧ cs.size = 10 ∧ ∀ j, j < pre.length → cs[j]? = some (.int .u8 (pre.getD j 0 : Nat))

theorem Filled.cell {B : Nat} {pre : List Nat} {w : World} (h : Filled B pre w) (j : Nat) (hj : j < 10) : ∃ v, w.cell? ⟨B, j, none⟩ = some v := by
  obtain ⟨cs, h1, h2, _⟩ := h.at_
  exact ⟨cs[j], by rw [World.cell?]; simp [h1, h2, hj]⟩

theorem Filled.free {B : Nat} {pre : List Nat} {w : World} (h : Filled B pre w) (j : Nat) : w.frozen? ⟨B, j, none⟩ = false := by
  obtain ⟨cs, h1, h2, _⟩ := h.at_
  simp [World.frozen?, h1]

theorem Filled.told {B : Nat} {pre : List Nat} {w : World} (h : Filled B pre w) (j : Nat) (hj : j < pre.length) : w.cell? ⟨B, j, none⟩ = some (.int .u8 (pre.getD j 0 : Nat)) := by
  obtain ⟨cs, h1, h2, h3⟩ := h.at_
  simp [World.cell?, h1, h3 j hj]

theorem Filled.put {B : Nat} {pre : List Nat} {w : World} (h : Filled B pre w) (x : Nat) (hk : pre.length < 10) : Filled B (pre ++ [x]) (w.setCell ⟨B, pre.length, none⟩ (.int .u8 x)) := by
  obtain ⟨cs, h1, h2, h3⟩ := h.at_
  refine ⟨⟨cs.set! pre.length (.int .u8 x), ?_, by simpa using h2, fun j hj => ?_⟩⟩
  · simp [World.setCell, Array.getElem?_modify, h1]
  · rw [Array.set!_eq_setIfInBounds, Array.getElem?_setIfInBounds]
    rw [List.length_append, List.length_singleton] at hj
    by_cases e : pre.length = j
    · subst e
      rw [if_pos rfl, if_pos (by omega)]
      simp
    · rw [if_neg e, h3 j (by omega)]
      simp [List.getElem?_append_left (show j < pre.length by omega)]

theorem or_more (m : Nat) : Go.bits .or .u8 ((m : Int) % 256) 128 = ((m % 128 + 128 : Nat) : Int) := by
  have e : ((m : Int) % 256) = ((m % 256 : Nat) : Int) := by omega
  rw [e, show (128 : Int) = ((128 : Nat) : Int) from rfl, u8_or_nat (m % 256) 128 (by omega) (by omega)]
  have h : ∀ a : Fin 256, (a.val ||| 128) = a.val % 128 + 128 := by decide +kernel
  rw [h ⟨m % 256, by omega⟩]
  show (((m % 256) % 128 + 128 : Nat) : Int) = _
  rw [Nat.mod_mod_of_dvd _ (by decide)]

theorem slice_ten (b k : Nat) (hk : k < 10) (W : World) : (Instr.sliceAt 80 (.pointer (some ⟨b, 0, none⟩)) none (some (.int .i64 ((k : Nat) + 1))) none).run Tryd.prog W = .ok (.slice (some ⟨b, 0, none⟩) (k + 1) 10) W := by
  have e80 : Tryd.prog.arrayLen 80 = 10 := by kernel_rfl
  have h := run_sliceAt_array_h (P := Tryd.prog) W 80 ⟨b, 0, none⟩ (by kernel_rfl) .i64 ((k : Nat) + 1) (by omega) (by rw [e80]; omega)
  rw [h, e80]
  have e5 : Tryd.prog.elem 80 = 5 := by kernel_rfl
  rw [e5, show (sizeOf 5).run Tryd.prog W = .ok 1 W from by kernel_rfl]
  simp only [Result.andThen, slicedAt]
  rw [show ((k : Int) + 1).toNat = k + 1 by omega]
  simp [Addr.add]

set_option maxHeartbeats 1000000 in
set_option maxRecDepth 100000 in
theorem vint_Put.calls (a0 : Int) (r : ByteArray) (w : World) (h : vint_Put.f a0 = some r) :
    Calls Tryd.prog 48 #[.int .u64 a0] w fun e w' => e = .returned (.string r) ∧ Below w.heap.size w w' := by
  unfold vint_Put.f at h
  split at h
  case isFalse => cases h
  rename_i hb
  obtain ⟨h0, h1⟩ := hb
  obtain ⟨n, rfl⟩ := Int.eq_ofNat_of_zero_le h0
  have hl := vbytes_len 9 n (by omega)
  obtain ⟨L, hL⟩ : ∃ L, L = vbytes n := ⟨_, rfl⟩
  simp only [Int.toNat_natCast, ← hL] at h
  rw [← hL] at hl
  have HL := Aside0.mk hL
  have HR := Aside0.mk h
  have HN := Aside0.mk h1
  clear h hL h0 h1
  go_enter Tryd.func48, Tryd.ntmps48
  go_wp2
  go_loopw [0, 4] (fun v0 v4 wr => ∃ m : Nat, ∃ pre : List Nat, v0 = .int .u64 m ∧ v4 = .int .i64 (pre.length : Nat) ∧ Aside0 (pre ++ vbytes m = L) ∧ Aside0 (m < 18446744073709551616) ∧ Filled w.heap.size pre wr ∧ Below w.heap.size w wr) (fun v0 _ _ => (intOf v0).toNat)
  case atStart => 
    refine ⟨n, [], rfl, rfl, ⟨by simp [HL.out]⟩, ⟨by have := HN.out; omega⟩, ?_, ?_⟩
    · exact ⟨⟨_, heap_alloc_new w _, rfl, fun j hj => by simp at hj⟩⟩
    · exact (Below.refl _ _).alloc (Nat.le_refl _) _
  case round =>
    obtain ⟨m, pre, rfl, rfl, HP, HM, hF, hB⟩ := hrel
    have hk : pre.length < 10 := by
      have e := congrArg List.length HP.out
      rw [List.length_append] at e
      have : 0 < (vbytes m).length := by rw [vbytes]; split <;> simp
      omega
    have hk2 : (pre.length : Int) < 10 := by omega
    have hk3 : (0 : Int) ≤ (pre.length : Nat) := by omega
    obtain ⟨v0, hc⟩ := hF.cell pre.length hk
    have hf := hF.free pre.length
    have hm0 : (0 : Int) ≤ (m : Nat) := by omega
    by_cases hlt : (m : Int) < 128
    · have hv : vbytes m = [m] := by rw [vbytes, if_pos (by omega)]
      have hF2 := hF.put m hk
      have hB2 : Below w.heap.size w (wr.setCell ⟨w.heap.size, pre.length, none⟩ (.int .u8 (m : Nat))) := hB.setCell (p := ⟨w.heap.size, pre.length, none⟩) (Nat.le_refl _) _
      have hcv : (convert 32 9 (.slice (some ⟨w.heap.size, 0, none⟩) (pre.length + 1) 10)).run Tryd.prog (wr.setCell ⟨w.heap.size, pre.length, none⟩ (.int .u8 (m : Nat))) = .ok (.string ⟨((pre ++ [m]).map UInt8.ofNat).toArray⟩) (wr.setCell ⟨w.heap.size, pre.length, none⟩ (.int .u8 (m : Nat))) := by
        have e := run_convert_bytes_back (P := Tryd.prog) (wr.setCell ⟨w.heap.size, pre.length, none⟩ (.int .u8 (m : Nat))) 32 9 5 ⟨w.heap.size, 0, none⟩ 10 ((pre ++ [m]).map UInt8.ofNat) Tryd.underlying32 Tryd.underlying5 Tryd.underlying9 (fun j hj => by
          rw [List.length_map] at hj
          have e1 := hF2.told j hj
          rw [show (⟨w.heap.size, 0, none⟩ : Addr).add j = ⟨w.heap.size, j, none⟩ by by_cases e0 : j = 0 <;> simp [Addr.add, e0], e1]
          have hlt : (pre ++ [m])[j] < 256 := by
            have hv2 := HP.out
            rw [hv, HL.out] at hv2
            exact vbytes_lt n _ (hv2 ▸ List.getElem_mem hj)
          have e3 : (UInt8.ofNat (pre ++ [m])[j]).toNat = (pre ++ [m])[j] := by
            rw [UInt8.toNat_ofNat']; exact Nat.mod_eq_of_lt hlt
          rw [List.getElem_map, e3]
          simp [List.getElem?_eq_getElem hj])
        rw [List.length_map, List.length_append, List.length_singleton] at e
        exact e
      have hr : r = ⟨((pre ++ [m]).map UInt8.ofNat).toArray⟩ := by
        have e1 := HP.out
        rw [hv] at e1
        rw [e1]
        exact (Option.some.inj HR.out).symm
      subst hr
      have hsl : ∀ W : World, (Instr.sliceAt 80 (.pointer (some ⟨w.heap.size, 0, none⟩)) none (some (.int .i64 ((pre.length : Nat) + 1))) none).run Tryd.prog W = .ok (.slice (some ⟨w.heap.size, 0, none⟩) (pre.length + 1) 10) W := slice_ten _ _ hk
      have HF2 := Aside0.mk hF2
      have HB2 := Aside0.mk hB2
      clear hF2 hB2 hB hF hv
      go_wp2
      go_ret
      exact ⟨by simp, HB2.out⟩
    · have hv : vbytes m = (m % 128 + 128) :: vbytes (m / 128) := by rw [vbytes, if_neg (by omega)]
      have hF2 := Aside0.mk (hF.put (m % 128 + 128) hk)
      have hB2 := Aside0.mk (hB.setCell (p := ⟨w.heap.size, pre.length, none⟩) (Nat.le_refl _) (.int .u8 ((m % 128 + 128 : Nat) : Int)))
      have hb := Aside0.mk (or_more m)
      have hP2 := Aside0.mk (show (pre ++ [m % 128 + 128]) ++ vbytes (m / 128) = L by rw [← HP.out, hv]; simp)
      clear hv hF hB
      go_wp2
      go_roundw
      case rel =>
        refine ⟨m / 128, pre ++ [m % 128 + 128], by first | rfl | simp, by simp, hP2, ⟨by have := HM.out; omega⟩, ?_, ?_⟩
        · rw [hb.out]; exact hF2.out
        · rw [hb.out]; exact hB2.out
      case measure => simp [intOf]; omega
end Go.Proofs.YtbanbeaemmlikaaDoor.Px
