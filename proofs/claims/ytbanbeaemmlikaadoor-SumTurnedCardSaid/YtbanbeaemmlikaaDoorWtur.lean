/- What is proved: what a call of SumTurned comes to, where the values on its way are as told. Condition: those that the theorem names. -/
import Derived.Test.YtbanbeaemmlikaaDoorBrow
namespace Go.Proofs.YtbanbeaemmlikaaDoor.Px
open Go.RowKit Go.Proofs.YtbanbeaemmlikaaDoorW.PrintWords Go.Proofs.YtbanbeaemmlikaaDoorW.PrintLast
open Go.Proofs.YtbanbeaemmlikaaDoor.Crc
set_option linter.unusedVariables false
def tbit (bits : Int) (j : Nat) : Bool := Go.bits .and .u32 (bits / 2 ^ j) 1 == 1
def tnew (n j : Nat) (b : ByteArray) : Int := Go.bits .xor .u8 (bt b (((n + j) / 8 : Nat) : Int)) (2 ^ ((n + j) % 8))
def tstep (n : Nat) (bits : Int) (j : Nat) (b : ByteArray) : ByteArray := if tbit bits j then turnAt b ((n + j) / 8) (tnew n j b) else b
def tloop (n : Nat) (bits : Int) (s : ByteArray) : Nat → ByteArray
  | 0 => s
  | j + 1 => tstep n bits j (tloop n bits s j)
theorem turn_place (n j z : Nat) (hn : (n : Int) < 8 * (z : Int) - 31) (hj : j < 32) (hz : z ≤ 500) : ∃ q r : Nat, q = (n + j) / 8 ∧ r = (n + j) % 8 ∧ q < z ∧ wrap64 ((n : Int) + (j : Int)) = (n : Int) + (j : Int) ∧
    Int.tdiv ((n : Int) + (j : Int)) 8 = (q : Int) ∧ wrap64 (q : Int) = (q : Int) ∧ Int.tmod ((n : Int) + (j : Int)) 8 = (r : Int) ∧ (q : Int) < (z : Int) ∧ r < 8 := by
  refine ⟨(n + j) / 8, (n + j) % 8, rfl, rfl, by omega, by unfold wrap64; omega, ?_, by unfold wrap64; omega, ?_, by omega, by omega⟩
  · rw [Int.tdiv_eq_ediv_of_nonneg (by omega)]; omega
  · rw [Int.tmod_eq_emod_of_nonneg (by omega)]; omega
theorem brow_turn {g : Nat} {b : ByteArray} {w : World} {n j q r : Nat} (h : BRow g b w) (hq : q = (n + j) / 8) (hr : r = (n + j) % 8) (hz : q < b.size) :
    BRow g (turnAt b ((n + j) / 8) (tnew n j b)) (w.setCell ⟨g, q, none⟩ (.int .u8 (Go.bits .xor .u8 (bt b (q : Int)) (2 ^ r)))) := by
  have e : tnew n j b = Go.bits .xor .u8 (bt b (q : Int)) (2 ^ r) := by unfold tnew; rw [hq, hr]
  have e2 : ∃ m : Nat, Go.bits .xor .u8 (bt b (q : Int)) (2 ^ r) = IntKind.u8.wrap (m : Int) := ⟨(BitVec.ofInt 8 (bt b (q : Int)) ^^^ BitVec.ofInt 8 (2 ^ r)).toNat, rfl⟩
  obtain ⟨m, e2⟩ := e2
  rw [e, ← hq, e2]
  rw [IntKind.wrap_u8]
  exact brow_set h q hz _ (by omega) (by omega)
theorem pow_min (r : Nat) (h : r < 8) : (2 : Int) ^ min (IntKind.u64.wrap (r : Int)).toNat 8 % 256 = 2 ^ r := by
  have e : (IntKind.u64.wrap (r : Int)).toNat = r := by
    have : IntKind.u64.wrap (r : Int) = (r : Int) := by rw [IntKind.wrap_u64]; omega
    rw [this, Int.toNat_natCast]
  rw [e, Nat.min_eq_left (by omega)]
  match r, h with
  | 0, _ => rfl
  | 1, _ => rfl
  | 2, _ => rfl
  | 3, _ => rfl
  | 4, _ => rfl
  | 5, _ => rfl
  | 6, _ => rfl
  | 7, _ => rfl
theorem tloop_size (n : Nat) (bits : Int) (s : ByteArray) (j : Nat) : (tloop n bits s j).size = s.size := by
  induction j with
  | zero => rfl
  | succ j ih =>
    rw [tloop, tstep]
    split
    · rw [turnAt_size, ih]
    · exact ih
set_option maxHeartbeats 8000000 in
set_option maxRecDepth 100000 in
theorem SumTurned_walk (s a : ByteArray) (at_ : Int) (n : Nat) (bits : Int) (w : World) (hT : TabIn w) (k : Nat)
    (h1 : heliographlaw01_awake.f k = some true) (h2 : heliographlaw01_short.f s 500 = some a) (h5 : ¬ a.size < 5) (hs : a.size ≤ 500) (hb0 : ¬ bits = 0)
    (hA : (decide (at_ < 0) = true ∧ Int.tmod (wrap64 (-wrap64 (at_ + 1))) (8 * (a.size : Int) - 31) = (n : Int)) ∨ (decide (at_ < 0) = false ∧ Int.tmod at_ (8 * (a.size : Int) - 31) = (n : Int)))
    (hn : (n : Int) < 8 * (a.size : Int) - 31)
    (y z : Int) (hy : sum_Of.f k [tloop n bits a 32] = some y) (hz : sum_Of.f k [a] = some z) (hyz : y ≠ z) :
    Calls Tryd.prog 5 #[.string s, .int .i64 at_, .int .u32 bits] w fun e w' => e = .returned (.bool true) ∧ Below w.heap.size w w' := by
  have kb := fun W => print_bytes (P := Tryd.prog) 9 32 5 Tryd.underlying9 Tryd.underlying32 Tryd.underlying5 a W
  have HTB := Aside0.mk hT
  have H1 := Aside0.mk h1
  have H2 := Aside0.mk h2
  have HS := Aside0.mk hs
  have HY := Aside0.mk hy
  have HZZ := Aside0.mk hz
  have eyz : (y != z) = true := bne_iff_ne.mpr hyz
  clear hy hz hyz
  have HN := Aside0.mk hn
  have H5 := Aside0.mk h5
  have e1 : decide ((a.size : Int) < 5) = false := decide_eq_false (by omega)
  have e0 : (bits == 0) = false := by rw [beq_eq_false_iff_ne]; exact hb0
  have w1 : wrap64 (8 * (a.size : Int)) = 8 * (a.size : Int) := by unfold wrap64; omega
  have w2 : wrap64 (8 * (a.size : Int) - 31) = 8 * (a.size : Int) - 31 := by unfold wrap64; omega
  have e3 : ((8 * (a.size : Int) - 31) == 0) = false := by rw [beq_eq_false_iff_ne]; omega
  clear hT h1 h2 h5 hs hn
  rcases hA with ⟨e2, en⟩ | ⟨e2, en⟩
  all_goals
    go_enter Tryd.func5, Tryd.ntmps5
    go_wp2_with (first
      | (go_at_call 16; (with_reducible refine (heliographlaw01_awake.calls k true _ HTB.out H1.out).mono ?_); rintro e w1 ⟨rfl, hb⟩; have HB1 := Aside0.mk hb; clear hb)
      | (go_at_call 17; (with_reducible refine (heliographlaw01_short.calls s 500 a _ H2.out).mono ?_); rintro e w2 ⟨rfl, hb⟩; have HB2 := Aside0.mk (HB1.out.trans (hb.below.mono HB1.out.size)); clear hb))
    have hsz : a.size ≤ 500 := HS.out
    go_loopw [10] (fun v10 wr => ∃ (j : Nat), v10 = .int .i64 (j : Nat) ∧ Aside0 (j ≤ 32) ∧ Aside0 (BRow w2.heap.size (tloop n bits a j) wr) ∧ Aside0 (Below w.heap.size w wr)) (fun v10 _ => 32 - (intOf v10).toNat)
    case atStart =>
      exact ⟨0, rfl, ⟨by omega⟩, ⟨brow_conv _ _⟩, ⟨bytes_below HB2.out HB2.out.size 5 a⟩⟩
    case round =>
      obtain ⟨j, rfl, HJ, HR, HB⟩ := hrel
      by_cases hlt : j < 32
      · have f1 : decide ((j : Int) < 32) = true := decide_eq_true (by omega)
        obtain ⟨q, r, hq, hr, q0, g1, g2, g3, g4, q1, r8⟩ := turn_place n j a.size HN.out hlt hsz
        have hz := tloop_size n bits a j
        have hc := HR.out.1 q (by rw [hz]; exact q0)
        have hf := HR.out.2 q (by rw [hz]; exact q0)
        have HQ := Aside0.mk hq
        have HRR := Aside0.mk hr
        have HZ := Aside0.mk hz
        clear hq hr hz
        by_cases hbit : tbit bits j = true
        · have f2 : (Go.bits .and .u32 (bits / 2 ^ j) 1 == 1) = true := hbit
          have hp := pow_min r r8
          have HZ2 := Aside0.mk q0
          clear q0 r8
          go_wp2
          go_roundw
          case rel => exact ⟨j + 1, by go_num, ⟨by omega⟩, ⟨by
            rw [tloop, tstep, if_pos hbit]
            exact brow_turn HR.out HQ.out HRR.out (by rw [HZ.out]; exact HZ2.out)⟩, ⟨HB.out.setCell (p := ⟨w2.heap.size, q, none⟩) HB2.out.size _⟩⟩
          case measure => simp [intOf]; omega
        · have f2 : (Go.bits .and .u32 (bits / 2 ^ j) 1 == 1) = false := by simpa [tbit] using hbit
          clear q0 r8
          go_wp2
          go_roundw
          case rel => exact ⟨j + 1, by go_num, ⟨by omega⟩, ⟨by rw [tloop, tstep, if_neg hbit]; exact HR.out⟩, HB⟩
          case measure => simp [intOf]; omega
      · have f1 : decide ((j : Int) < 32) = false := decide_eq_false (by omega)
        obtain rfl : j = 32 := by have := HJ.out; omega
        have hz := tloop_size n bits a 32
        obtain ⟨b, eb⟩ : ∃ b, b = tloop n bits a 32 := ⟨_, rfl⟩
        rw [← eb] at HR hz HY
        have kk : ∀ cap, (convert 32 9 (.slice (some ⟨w2.heap.size, 0, none⟩) a.size cap)).run Tryd.prog wr = .ok (.string b) wr := by
          intro cap
          have := brow_back HR.out cap
          rw [hz] at this
          exact this
        go_wp2_with (first
          | ((with_reducible refine gate_dst (N := 70) rfl ?_); (try (refine gate_guard (by rfl) ?_; dsimp only)); refine Kd.R_lit Kd.string _ 9 ?hg (N := 70) ?hd (xs := ([b] : List ByteArray)) (inner := [.string b]) (ok := fun _ => True) (okp := fun _ => True) ?hr ?hp (fun _ hk => hk) trivial (Below.refl _ _) (Nat.le_refl _) (by simp) ?_; (case hd => rfl); (case hg => rfl); (case hr => first | (go_simp; done) | (go_simp; rfl)); (case hp => exact (Reps.one (show Kd.M Kd.string _ _ _ b [.string b] from rfl) (Reps.none _ _))); intro v70 w5 ho5 hb hg_ hnew_; clear hg_ hnew_; have HB5 := Aside0.mk (HB.out.trans (hb.mono HB.out.size)); clear hb; have HOv70 := Aside0.mk ho5; obtain ⟨Av70, cv70, ev70⟩ := Kd.R_slice ho5; subst ev70; clear ho5)
          | (go_at_call 18; (refine (sum_Of.calls k _ _ [b] y _ ?side1 ?side2 ?side3 HY.out).mono ?_); (case side1 => exact (Kd.R_reads' HOv70.out).2.2); (case side2 => exact (Kd.R_reads' HOv70.out).2.1); (case side3 => exact TabIn.below HTB.out HB5.out); rintro e w7 ⟨rfl, hb⟩; have HB6 := Aside0.mk (HB5.out.trans (hb.below.mono HB5.out.size)); clear hb)
          | ((with_reducible refine gate_dst (N := 73) rfl ?_); (try (refine gate_guard (by rfl) ?_; dsimp only)); refine Kd.R_lit Kd.string _ 9 ?hg (N := 73) ?hd (xs := ([a] : List ByteArray)) (inner := [.string a]) (ok := fun _ => True) (okp := fun _ => True) ?hr ?hp (fun _ hk => hk) trivial (Below.refl _ _) (Nat.le_refl _) (by simp) ?_; (case hd => rfl); (case hg => rfl); (case hr => first | (go_simp; done) | (go_simp; rfl)); (case hp => exact (Reps.one (show Kd.M Kd.string _ _ _ a [.string a] from rfl) (Reps.none _ _))); intro v73 w8 ho8 hb hg_ hnew_; clear hg_ hnew_; have HB8 := Aside0.mk (HB6.out.trans (hb.mono HB6.out.size)); clear hb; have HOv73 := Aside0.mk ho8; obtain ⟨Av73, cv73, ev73⟩ := Kd.R_slice ho8; subst ev73; clear ho8)
          | (go_at_call 18; (refine (sum_Of.calls k _ _ [a] z _ ?side1 ?side2 ?side3 HZZ.out).mono ?_); (case side1 => exact (Kd.R_reads' HOv73.out).2.2); (case side2 => exact (Kd.R_reads' HOv73.out).2.1); (case side3 => exact TabIn.below HTB.out HB8.out); rintro e w7 ⟨rfl, hb⟩; have HB9 := Aside0.mk (HB8.out.trans (hb.below.mono HB8.out.size)); clear hb))
        go_ret
        exact ⟨rfl, HB9.out⟩
end Go.Proofs.YtbanbeaemmlikaaDoor.Px
