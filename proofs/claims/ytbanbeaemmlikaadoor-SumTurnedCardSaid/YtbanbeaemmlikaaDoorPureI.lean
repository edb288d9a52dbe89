/- What is proved: that SumTurned answers true at every input. Condition: the table is as it was laid. -/
import Derived.Test.YtbanbeaemmlikaaDoorBurst
import Derived.Test.YtbanbeaemmlikaaDoorWtur
import Derived.Test.YtbanbeaemmlikaaDoorPureH
namespace Go.Proofs.YtbanbeaemmlikaaDoor.Px
open Go.RowKit Go.Proofs.YtbanbeaemmlikaaDoorW.PrintWords Go.Proofs.YtbanbeaemmlikaaDoorW.PrintLast
open Go.Proofs.YtbanbeaemmlikaaDoor.Crc

theorem tbit_word (m j : Nat) (hm : m < 4294967296) : tbit (m : Int) j = m.testBit j := by
  have e1 : (m : Int) / 2 ^ j = ((m / 2 ^ j : Nat) : Int) := by
    rw [Int.natCast_ediv]
    congr 1
  have hlt : m / 2 ^ j < 4294967296 := Nat.lt_of_le_of_lt (Nat.div_le_self _ _) hm
  have e2 : Go.bits .and .u32 ((m / 2 ^ j : Nat) : Int) 1 = IntKind.u32.wrap ((BitVec.ofInt 32 ((m / 2 ^ j : Nat) : Int) &&& BitVec.ofInt 32 1).toNat : Int) := rfl
  have e3 : (BitVec.ofInt 32 ((m / 2 ^ j : Nat) : Int) &&& BitVec.ofInt 32 1).toNat = m / 2 ^ j % 2 := by
    rw [BitVec.toNat_and, BitVec.ofInt_natCast, BitVec.toNat_ofNat, Nat.mod_eq_of_lt (by omega)]
    show m / 2 ^ j &&& 1 = _
    exact Nat.and_one_is_mod _
  unfold tbit
  rw [e1, e2, e3, IntKind.wrap_u32, Nat.testBit_eq_decide_div_mod_eq]
  by_cases h : m / 2 ^ j % 2 = 1
  · rw [h]; decide
  · have : m / 2 ^ j % 2 = 0 := by omega
    rw [this]; decide

theorem bit_turn (b : ByteArray) (n j p : Nat) (hq : (n + j) / 8 < b.size) (hp : p < 8 * b.size) :
    bitAt (bs (turnAt b ((n + j) / 8) (tnew n j b))) p = (bitAt (bs b) p ^^ decide (p = n + j)) := by
  have hb : (n + j) / 8 < (bs b).length := by rw [bs_len]; exact hq
  have hp8 : p / 8 < (bs b).length := by rw [bs_len]; omega
  have hr : (n + j) % 8 < 8 := Nat.mod_lt _ (by decide)
  have hpow : (2 : Int) ^ ((n + j) % 8) = ((2 ^ ((n + j) % 8) : Nat) : Int) := (Int.natCast_pow 2 _).symm
  have hpl : 2 ^ ((n + j) % 8) < 256 := Nat.pow_lt_pow_right (by decide : 1 < 2) hr
  have ht : tnew n j b = (((bs b)[(n + j) / 8].toNat ^^^ 2 ^ ((n + j) % 8) : Nat) : Int) := by
    unfold tnew
    rw [bt_bytes b _ hb, hpow]
    have hx := (bs b)[(n + j) / 8].toNat_lt
    generalize (bs b)[(n + j) / 8].toNat = c at hx ⊢
    generalize 2 ^ ((n + j) % 8) = d at hpl ⊢
    have e : Go.bits .xor .u8 ((c : Nat) : Int) (d : Int) = IntKind.u8.wrap ((BitVec.ofInt 8 (c : Int) ^^^ BitVec.ofInt 8 (d : Int)).toNat : Int) := rfl
    have e1 : (BitVec.ofInt 8 (c : Int) ^^^ BitVec.ofInt 8 (d : Int)).toNat = c ^^^ d := by
      rw [BitVec.toNat_xor, BitVec.ofInt_natCast, BitVec.ofInt_natCast, BitVec.toNat_ofNat, BitVec.toNat_ofNat, Nat.mod_eq_of_lt (by omega), Nat.mod_eq_of_lt (by omega)]
    have hlt : c ^^^ d < 256 := Nat.xor_lt_two_pow (n := 8) (by omega) (by omega)
    rw [e, e1, IntKind.wrap_u8]
    omega
  unfold bitAt
  rw [turnAt_bs, ht, Int.toNat_natCast, List.getD_eq_getElem?_getD, List.getD_eq_getElem?_getD]
  by_cases h : p / 8 = (n + j) / 8
  · rw [h, List.getElem?_set_self hb, List.getElem?_eq_getElem hb]
    have hlt : (bs b)[(n + j) / 8].toNat ^^^ 2 ^ ((n + j) % 8) < 256 := Nat.xor_lt_two_pow (n := 8) (by have := (bs b)[(n + j) / 8].toNat_lt; omega) (by omega)
    simp only [Option.getD_some, UInt8.toNat_ofNat']
    rw [Nat.mod_eq_of_lt hlt, Nat.testBit_xor, Nat.testBit_two_pow]
    congr 1
    exact decide_eq_decide.2 (by omega)
  · rw [List.getElem?_set_ne (fun e => h e.symm), List.getElem?_eq_getElem hp8, decide_eq_false (by intro e; exact h (by rw [e]))]
    simp

theorem tloop_bits (s : ByteArray) (n m : Nat) (hm : m < 4294967296) (hn : n + 32 ≤ 8 * s.size) (j : Nat) (hj : j ≤ 32) : ∀ p, p < 8 * s.size →
    bitAt (bs (tloop n (m : Int) s j)) p = (bitAt (bs s) p ^^ (decide (n ≤ p) && (decide (p - n < j) && m.testBit (p - n)))) := by
  induction j with
  | zero => intro p _; rw [tloop]; simp
  | succ j ih =>
    intro p hp
    have hz := tloop_size n (m : Int) s j
    rw [tloop, tstep, tbit_word m j hm]
    by_cases hb : m.testBit j = true
    · rw [if_pos hb, bit_turn _ n j p (by rw [hz]; omega) (by rw [hz]; exact hp), ih (by omega) p hp, Bool.xor_assoc]
      congr 1
      by_cases h : p = n + j
      · subst h
        rw [Nat.add_sub_cancel_left, hb]
        simp
      · by_cases h2 : n ≤ p
        · have : decide (p - n < j + 1) = decide (p - n < j) := decide_eq_decide.2 (by omega)
          rw [this, decide_eq_false h]; simp
        · rw [decide_eq_false h, decide_eq_false h2]; simp
    · rw [if_neg hb, ih (by omega) p hp]
      congr 1
      by_cases h : n ≤ p ∧ p - n = j
      · rw [h.2]
        simp at hb
        rw [hb]; simp
      · by_cases h2 : n ≤ p
        · have : decide (p - n < j + 1) = decide (p - n < j) := decide_eq_decide.2 (by omega)
          rw [this]
        · rw [decide_eq_false h2]; simp

set_option maxHeartbeats 8000000 in
set_option maxRecDepth 100000 in
theorem SumTurned_early (s a : ByteArray) (at_ : Int) (bits : Int) (w : World) (hT : TabIn w) (k : Nat)
    (h1 : heliographlaw01_awake.f k = some true) (h2 : heliographlaw01_short.f s 500 = some a) (h5 : decide ((a.size : Int) < 5) = true ∨ decide ((a.size : Int) < 5) = false ∧ (bits == 0) = true) :
    Calls Tryd.prog 5 #[.string s, .int .i64 at_, .int .u32 bits] w fun e w' => e = .returned (.bool true) ∧ Below w.heap.size w w' := by
  have HTB := Aside0.mk hT
  have H1 := Aside0.mk h1
  have H2 := Aside0.mk h2
  clear hT h1 h2
  rcases h5 with e1 | ⟨e1, e0⟩
  all_goals
    go_enter Tryd.func5, Tryd.ntmps5
    go_wp2_with (first
      | (go_at_call 16; (with_reducible refine (heliographlaw01_awake.calls k true _ HTB.out H1.out).mono ?_); rintro e w1 ⟨rfl, hb⟩; have HB1 := Aside0.mk hb; clear hb)
      | (go_at_call 17; (with_reducible refine (heliographlaw01_short.calls s 500 a _ H2.out).mono ?_); rintro e w2 ⟨rfl, hb⟩; have HB2 := Aside0.mk (HB1.out.trans (hb.below.mono HB1.out.size)); clear hb))
    go_ret
    exact ⟨rfl, HB2.out⟩

theorem SumTurned_all (a0 : ByteArray) (a1 : Int) (h1 : (Lit.int .i64 a1).wf = true) (a2 : Int) (h2 : (Lit.int .u32 a2).wf = true) (w : World) (hT : TabIn w) :
    Calls Tryd.prog 5 #[.string a0, .int .i64 a1, .int .u32 a2] w fun e w' => e = .returned (.bool true) ∧ Below w.heap.size w w' := by
  have hv : 0 ≤ a2 ∧ a2 < 4294967296 := by
    have h : IntKind.u32.min ≤ a2 ∧ a2 ≤ IntKind.u32.max := by simpa [Lit.wf] using h2
    have e1 : IntKind.u32.min = 0 := by decide
    have e2 : IntKind.u32.max = 4294967295 := by decide
    omega
  have hs := cut_size a0 500
  obtain ⟨K, hK⟩ : ∃ K, K = 30000 := ⟨_, rfl⟩
  have g1 : heliographlaw01_awake.f K = some true := awake01 _ (by omega)
  have g2 : heliographlaw01_short.f a0 500 = some (cut a0 500) := by rw [show (500 : Int) = ((500 : Nat) : Int) from rfl, short01]
  by_cases h5 : (cut a0 500).size < 5
  · exact SumTurned_early a0 (cut a0 500) a1 a2 w hT K g1 g2 (.inl (decide_eq_true (by omega)))
  by_cases h0 : a2 = 0
  · exact SumTurned_early a0 (cut a0 500) a1 a2 w hT K g1 g2 (.inr ⟨decide_eq_false (by omega), by rw [h0]; rfl⟩)
  obtain ⟨m, rfl⟩ : ∃ m : Nat, a2 = (m : Int) := ⟨a2.toNat, by omega⟩
  obtain ⟨n, hn, hA⟩ := place_at a1 h1 (8 * (cut a0 500).size - 31) (by omega)
  have ez : ((8 * (cut a0 500).size - 31 : Nat) : Int) = 8 * ((cut a0 500).size : Int) - 31 := by omega
  rw [ez] at hA
  have hbits := tloop_bits (cut a0 500) n m (by omega) (by omega) 32 (Nat.le_refl _)
  have hzz := tloop_size n (m : Int) (cut a0 500) 32
  have hne : crc ones (bs (tloop n (m : Int) (cut a0 500) 32)) ≠ crc ones (bs (cut a0 500)) := by
    refine crc_burst ones (bs (cut a0 500)) (bs (tloop n (m : Int) (cut a0 500) 32)) n (BitVec.ofNat 32 m) ?_ (by rw [bs_len, bs_len, hzz]) (by rw [bs_len]; omega) (fun p hp => ?_)
    · intro e
      have := congrArg BitVec.toNat e
      rw [BitVec.toNat_ofNat, Nat.mod_eq_of_lt (by omega)] at this
      exact h0 (by rw [this]; rfl)
    · rw [bs_len] at hp
      rw [hbits p hp, BitVec.getLsbD_ofNat]
  have hy : val (sumW (bs (tloop n (m : Int) (cut a0 500) 32))) ≠ val (sumW (bs (cut a0 500))) := fun e => hne (sumW_inj (val_inj e))
  exact SumTurned_walk a0 (cut a0 500) a1 n m w hT K g1 g2 h5 hs h0 hA (by omega) _ _ (of_one _ _ (by omega) (by omega)) (of_one _ _ (by omega) (by omega)) hy

end Go.Proofs.YtbanbeaemmlikaaDoor.Px
