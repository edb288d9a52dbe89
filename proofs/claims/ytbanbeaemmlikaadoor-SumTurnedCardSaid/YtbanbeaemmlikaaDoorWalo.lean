/- What is proved: what a call of SumAlone comes to, where the values on its way are as told. Condition: those that the theorem names. -/
import Derived.Test.YtbanbeaemmlikaaDoorTurn
namespace Go.Proofs.YtbanbeaemmlikaaDoor.Px
open Go.RowKit Go.Proofs.YtbanbeaemmlikaaDoorW.PrintWords Go.Proofs.YtbanbeaemmlikaaDoorW.PrintLast
open Go.Proofs.YtbanbeaemmlikaaDoor.Crc
set_option linter.unusedVariables false
set_option maxHeartbeats 8000000 in
set_option maxRecDepth 100000 in
theorem SumAlone_walk (s t a : ByteArray) (at_ : Int) (n : Nat) (turn x : Int) (w : World) (hT : TabIn w) (k : Nat)
    (h1 : heliographlaw01_awake.f k = some true) (h2 : heliographlaw01_short.f s 500 = some a) (h3 : sum_Sealed.f k a = some t) (h4 : sum_Open.f k t = some (a, true)) (ht : t.size = a.size + 4) (hs : a.size ≤ 500)
    (hA : (decide (at_ < 0) = true ∧ Int.tmod (wrap64 (-wrap64 (at_ + 1))) (t.size : Int) = (n : Int)) ∨ (decide (at_ < 0) = false ∧ Int.tmod at_ (t.size : Int) = (n : Int)))
    (hB : ((turn == 0) = true ∧ Go.bits .xor .u8 (bt t (n : Int)) 1 = x) ∨ ((turn == 0) = false ∧ Go.bits .xor .u8 (bt t (n : Int)) turn = x))
    (hnt : n < t.size) (hx0 : 0 ≤ x) (hx1 : x < 256) (h5 : sum_Open.f k (turnAt t n x) = some (⟨#[]⟩, false)) (e8 : t.extract 0 a.size = a) :
    Calls Tryd.prog 6 #[.string s, .int .i64 at_, .int .u8 turn] w fun e w' => e = .returned (.bool true) ∧ Below w.heap.size w w' := by
  have kb := fun W => print_bytes (P := Tryd.prog) 9 32 5 Tryd.underlying9 Tryd.underlying32 Tryd.underlying5 t W
  have kc := fun W => turn_cell W t n hnt
  have kf := fun W => turn_frozen W t n hnt
  have kk := fun W cap => turn_back W t n cap hnt x hx0 hx1
  have HTB := Aside0.mk hT
  have H1 := Aside0.mk h1
  have H2 := Aside0.mk h2
  have H3 := Aside0.mk h3
  have H4 := Aside0.mk h4
  have H5 := Aside0.mk h5
  have HS := Aside0.mk ht
  have e1 : ((t.size : Int) != wrap64 ((a.size : Int) + 4)) = false := by rw [show wrap64 ((a.size : Int) + 4) = (a.size : Int) + 4 by unfold wrap64; omega]; simp; omega
  have e0 : ((t.size : Int) == 0) = false := by rw [beq_eq_false_iff_ne]; omega
  have e4 : decide (0 ≤ (n : Int)) = true := decide_eq_true (by omega)
  have e5 : decide ((n : Int) < (t.size : Int)) = true := decide_eq_true (by omega)
  have e7 : ((a.size : Int) ≤ (t.size : Int)) = True := eq_true (by omega)
  have e9 : a.size ≤ t.size := by omega
  have e6 : (n : Int) < (t.size : Int) := by omega
  clear hT h1 h2 h3 h4 h5 ht hs
  rcases hA with ⟨e2, en⟩ | ⟨e2, en⟩ <;> rcases hB with ⟨e3, ex⟩ | ⟨e3, ex⟩
  all_goals
    go_enter Tryd.func6, Tryd.ntmps6
    go_wp2_with (first
      | (go_at_call 16; (with_reducible refine (heliographlaw01_awake.calls k true _ HTB.out H1.out).mono ?_); rintro e w1 ⟨rfl, hb⟩; have HB1 := Aside0.mk hb; clear hb)
      | (go_at_call 17; (with_reducible refine (heliographlaw01_short.calls s 500 a _ H2.out).mono ?_); rintro e w2 ⟨rfl, hb⟩; have HB2 := Aside0.mk (HB1.out.trans (hb.below.mono HB1.out.size)); clear hb)
      | (go_at_call 22; (with_reducible refine (sum_Sealed.calls k a t _ ?side1 H3.out).mono ?_); (case side1 => exact TabIn.below HTB.out HB2.out); rintro e w3 ⟨rfl, hb⟩; have HB3 := Aside0.mk (HB2.out.trans (hb.mono HB2.out.size)); clear hb)
      | (go_at_call 20; (with_reducible refine (sum_Open.calls k t a true _ ?side1 H4.out).mono ?_); (case side1 => exact TabIn.below HTB.out HB3.out); rintro e w4 ⟨rfl, hb⟩; have HB4 := Aside0.mk (HB3.out.trans (hb.mono HB3.out.size)); clear hb)
      | (have HB5 := Aside0.mk ((bytes_below HB4.out HB4.out.size 5 t).setCell (p := ⟨w4.heap.size, n, none⟩) HB4.out.size (.int .u8 x)); go_at_call 20; (with_reducible refine (sum_Open.calls k (turnAt t n x) ⟨#[]⟩ false _ ?side1 H5.out).mono ?_); (case side1 => exact TabIn.below HTB.out HB5.out); rintro e w6 ⟨rfl, hb⟩; have HB6 := Aside0.mk (HB5.out.trans (hb.mono HB5.out.size)); clear hb))
    go_ret
    exact ⟨by first | rfl | simp [e8], HB6.out⟩
end Go.Proofs.YtbanbeaemmlikaaDoor.Px
