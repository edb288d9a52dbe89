/- What is proved: that a sealed text of which one byte is turned does not open; so the statement SumAlone, as plain values. No condition but what each theorem says. -/
import Derived.Test.YtbanbeaemmlikaaDoorFgetb
import Derived.Test.YtbanbeaemmlikaaDoorTurn
namespace Go.Proofs.YtbanbeaemmlikaaDoor.Px
open Go.RowKit Go.Proofs.YtbanbeaemmlikaaDoorW.PrintWords Go.Proofs.YtbanbeaemmlikaaDoorW.PrintLast
open Go.Proofs.YtbanbeaemmlikaaDoor.Crc

theorem sumW_inj {l m : List UInt8} (h : sumW l = sumW m) : crc ones l = crc ones m := by
  unfold sumW at h
  have := congrArg (fun x => ~~~ x) h
  simpa using this
theorem tail4_inj {c d : W} (h : bs (tail4 c) = bs (tail4 d)) : c = d := by
  have hc := val_lt c
  have hd := val_lt d
  apply val_inj
  have e : ∀ x : Int, 0 ≤ x → x < 256 → ((UInt8.ofNat x.toNat).toNat : Int) = x := fun x h0 h1 => byte_nat h0 h1
  unfold tail4 strOfNums at h
  simp only [bs_mk, List.map_cons, List.map_nil, List.cons.injEq, and_true] at h
  obtain ⟨h1, h2, h3, h4⟩ := h
  have g1 := congrArg (fun b : UInt8 => (b.toNat : Int)) h1
  have g2 := congrArg (fun b : UInt8 => (b.toNat : Int)) h2
  have g3 := congrArg (fun b : UInt8 => (b.toNat : Int)) h3
  have g4 := congrArg (fun b : UInt8 => (b.toNat : Int)) h4
  rw [e _ (by omega) (by omega), e _ (by omega) (by omega)] at g1 g2 g3 g4
  omega

/-- One byte of a body with its sum is another: the sum is wrong. -/
theorem turned_sum (l : List UInt8) (n : Nat) (y : UInt8) (hn : n < (l ++ bs (tail4 (sumW l))).length) (hy : y ≠ (l ++ bs (tail4 (sumW l)))[n]) :
    ∃ (l' r' : List UInt8), (l ++ bs (tail4 (sumW l))).set n y = l' ++ r' ∧ l'.length = l.length ∧ r'.length = 4 ∧ r' ≠ bs (tail4 (sumW l')) := by
  have h4 : ∀ c, (bs (tail4 c)).length = 4 := fun c => by rw [bs_len]; rfl
  by_cases h : n < l.length
  · refine ⟨l.set n y, bs (tail4 (sumW l)), List.set_append_left _ _ h, List.length_set, h4 _, fun e => ?_⟩
    rw [List.getElem_append_left h] at hy
    have e2 := sumW_inj (tail4_inj e)
    have d : l = l.take n ++ l[n] :: l.drop (n + 1) := by rw [List.getElem_cons_drop, List.take_append_drop]
    rw [List.set_eq_take_append_cons_drop, if_pos h] at e2
    rw [d] at e2
    have ht : (l.take n).length = n := by rw [List.length_take]; omega
    simp only [List.take_left' ht] at e2
    have hd : (l.take n ++ l[n] :: l.drop (n + 1)).drop (n + 1) = l.drop (n + 1) := by rw [← d]
    rw [hd] at e2
    exact crc_turned ones (l.take n) (l.drop (n + 1)) l[n] y (fun e => hy e.symm) e2
  · have h' : l.length ≤ n := by omega
    refine ⟨l, (bs (tail4 (sumW l))).set (n - l.length) y, List.set_append_right _ _ h', rfl, by rw [List.length_set, h4], fun e => ?_⟩
    rw [List.getElem_append_right h'] at hy
    rw [List.length_append, h4] at hn
    have := List.getElem_set_self (l := bs (tail4 (sumW l))) (i := n - l.length) (a := y) (by rw [List.length_set, h4]; omega)
    simp only [e] at this
    exact hy this.symm

theorem open_turned (a : ByteArray) (n : Nat) (x : Int) (hn : n < (sealedW a).size) (h0 : 0 ≤ x) (h1 : x < 256) (hx : x ≠ bt (sealedW a) (n : Int)) : openW (turnAt (sealedW a) n x) = (⟨#[]⟩, false) := by
  have es : bs (sealedW a) = bs a ++ bs (tail4 (sumW (bs a))) := by unfold sealedW; rw [bs_cat]
  have hn' : n < (bs (sealedW a)).length := by rw [bs_len]; exact hn
  rw [bt_bs _ n hn'] at hx
  have hy : UInt8.ofNat x.toNat ≠ (bs a ++ bs (tail4 (sumW (bs a))))[n]'(by rw [← es]; exact hn') := by
    intro e
    apply hx
    have := congrArg (fun b : UInt8 => (b.toNat : Int)) e
    rw [byte_nat h0 h1] at this
    rw [this]
    simp only [es]
  obtain ⟨l', r', e1, e2, e3, e4⟩ := turned_sum (bs a) n (UInt8.ofNat x.toNat) (by rw [← es]; exact hn') hy
  rw [open_at (turnAt (sealedW a) n x) l' r' (by rw [turnAt_bs, es, e1]) e3, if_neg e4]

/-- A byte turned by another than nought is another byte. -/
theorem xor_byte (b : UInt8) (v : Int) (h0 : 0 < v) (h1 : v < 256) : ∃ x, Go.bits .xor .u8 ((b.toNat : Nat) : Int) v = x ∧ 0 ≤ x ∧ x < 256 ∧ x ≠ (b.toNat : Int) := by
  obtain ⟨m, rfl⟩ : ∃ m : Nat, v = (m : Int) := ⟨v.toNat, by omega⟩
  have hb := b.toNat_lt
  have e : Go.bits .xor .u8 ((b.toNat : Nat) : Int) (m : Int) = IntKind.u8.wrap ((BitVec.ofInt 8 (b.toNat : Int) ^^^ BitVec.ofInt 8 (m : Int)).toNat : Int) := rfl
  have e1 : (BitVec.ofInt 8 (b.toNat : Int) ^^^ BitVec.ofInt 8 (m : Int)).toNat = b.toNat ^^^ m := by
    rw [BitVec.toNat_xor, BitVec.ofInt_natCast, BitVec.ofInt_natCast, BitVec.toNat_ofNat, BitVec.toNat_ofNat, Nat.mod_eq_of_lt (by omega), Nat.mod_eq_of_lt (by omega)]
  have hlt : b.toNat ^^^ m < 256 := Nat.xor_lt_two_pow (n := 8) (by omega) (by omega)
  have hw : IntKind.u8.wrap ((b.toNat ^^^ m : Nat) : Int) = ((b.toNat ^^^ m : Nat) : Int) := by
    rw [IntKind.wrap_u8]
    omega
  refine ⟨_, by rw [e, e1, hw], by omega, by omega, fun h => ?_⟩
  have h2 : b.toNat ^^^ m = b.toNat := by omega
  have h3 : m = 0 := by
    have := congrArg (fun z => b.toNat ^^^ z) h2
    simpa [← Nat.xor_assoc] using this
  omega

end Go.Proofs.YtbanbeaemmlikaaDoor.Px
