/- What is proved: that SumNil answers true at every input. Condition: the table is as it was laid. -/
import Derived.Test.YtbanbeaemmlikaaDoorPx5
import Derived.Test.YtbanbeaemmlikaaDoorSumG
namespace Go.Proofs.YtbanbeaemmlikaaDoor.Px
open Go.RowKit Go.Proofs.YtbanbeaemmlikaaDoorW.PrintWords Go.Proofs.YtbanbeaemmlikaaDoorW.PrintLast
open Go.Proofs.YtbanbeaemmlikaaDoor.Crc
set_option linter.unusedVariables false
set_option maxHeartbeats 8000000 in
theorem reset_nil (w : World) : Calls Tryd.prog 32 #[.pointer none] w fun e w' => e = .returned (.tuple #[]) ∧ w' = w := by
  go_enter Tryd.func32, Tryd.ntmps32
  go_wp2
  go_end0
  exact ⟨rfl, rfl⟩
set_option maxHeartbeats 8000000 in
set_option maxRecDepth 100000 in
theorem SumNil_walk (s a : ByteArray) (v : Int) (w : World) (hT : TabIn w) (k : Nat) (ha : a = ⟨#[97]⟩) (h1 : heliographlaw01_awake.f k = some true) (h2 : sum_Sum_Write.f k 0 0 a = some (1, v, 1)) (h3 : sum_Of.f k [a] = some v) :
    Calls Tryd.prog 8 #[.string s] w fun e w' => e = .returned (.bool true) ∧ Below w.heap.size w w' := by
  subst ha
  have hu47 := Tryd.underlying47
  have HTB := Aside0.mk hT
  have H1 := Aside0.mk h1
  have H2 := Aside0.mk h2
  have H3 := Aside0.mk h3
  have H4 := Aside0.mk (show sum_Sum_Value.f v 1 = some (v, v, 1) from rfl)
  have H5 := Aside0.mk (show sum_Sum_Len.f v 1 = some (1, v, 1) from rfl)
  have evv : (v == v) = true := beq_self_eq_true v
  clear hT h1 h2 h3
  go_enter Tryd.func8, Tryd.ntmps8
  go_wp2_with (first
    | ((with_reducible refine gate_dst (N := 7) rfl ?_); refine box_event ?hg (N := 7) ?hd (cs := #[.int .u32 0, .int .i64 0]) (t := 47) ?hr ?_; (case hd => rfl); (case hg => rfl); (case hr => first | (go_simp; done) | (go_simp; rfl)); intro gb hg w1 hbox hb; have HB1 := Aside0.mk hb; have HI1 := Aside0.mk (show IsS47 w w1 gb 0 0 from ⟨hbox, Nat.le_of_eq hg.symm⟩); clear hb hbox hg)
    | (go_at_call 32; (with_reducible refine (reset_nil _).mono ?_); rintro e w' ⟨rfl, rfl⟩)
    | (go_at_call 33; (with_reducible refine (sum_Sum_Write.calls k gb 0 0 _ 1 v 1 w _ HI1.out HB1.out HTB.out H2.out).mono ?_); rintro e w2 ⟨rfl, hi, hb, hk⟩; have HI2 := Aside0.mk hi; have HB2 := Aside0.mk hb; clear hi hb hk)
    | (go_at_call 16; (with_reducible refine (heliographlaw01_awake.calls k true _ ?side1 H1.out).mono ?_); (case side1 => exact TabIn.below HTB.out HB2.out); rintro e w3 ⟨rfl, hb⟩; have HI3 := Aside0.mk (HI2.out.below hb); have HB3 := Aside0.mk (HB2.out.trans (hb.mono HB2.out.size)); clear hb)
    | (go_at_call 35; (with_reducible refine (sum_Sum_Value.calls gb v 1 v v 1 w _ HI3.out HB3.out H4.out).mono ?_); rintro e w4 ⟨rfl, hi, hb, hk⟩; have HI4 := Aside0.mk hi; have HB4 := Aside0.mk hb; clear hi hb hk)
    | ((with_reducible refine gate_dst (N := 31) rfl ?_); (try (refine gate_guard (by rfl) ?_; dsimp only)); refine Kd.R_lit Kd.string _ 9 ?hg (N := 31) ?hd (xs := ([⟨#[97]⟩] : List ByteArray)) (inner := [.string ⟨#[97]⟩]) (ok := fun _ => True) (okp := fun _ => True) ?hr ?hp (fun _ hk => hk) trivial (Below.refl _ _) (Nat.le_refl _) (by simp) ?_; (case hd => rfl); (case hg => rfl); (case hr => first | (go_simp; done) | (go_simp; rfl)); (case hp => exact (Reps.one (show Kd.M Kd.string _ _ _ ⟨#[97]⟩ [.string ⟨#[97]⟩] from rfl) (Reps.none _ _))); intro v70 w5 ho5 hb hg_ hnew_; clear hg_ hnew_; have HI5 := Aside0.mk (HI4.out.below hb); have HB5 := Aside0.mk (HB4.out.trans (hb.mono HB4.out.size)); clear hb; have HOv70 := Aside0.mk ho5; obtain ⟨Av70, cv70, ev70⟩ := Kd.R_slice ho5; subst ev70; clear ho5)
    | (go_at_call 18; (refine (sum_Of.calls k _ _ [⟨#[97]⟩] v _ ?side1 ?side2 ?side3 H3.out).mono ?_); (case side1 => exact (Kd.R_reads' HOv70.out).2.2); (case side2 => exact (Kd.R_reads' HOv70.out).2.1); (case side3 => exact TabIn.below HTB.out HB5.out); rintro e w6 ⟨rfl, hb⟩; have HI6 := Aside0.mk (HI5.out.below hb.below); have HB6 := Aside0.mk (HB5.out.trans (hb.below.mono HB5.out.size)); clear hb)
    | (go_at_call 34; (with_reducible refine (sum_Sum_Len.calls gb v 1 1 v 1 w _ HI6.out HB6.out H5.out).mono ?_); rintro e w7 ⟨rfl, hi, hb, hk⟩; have HI7 := Aside0.mk hi; have HB7 := Aside0.mk hb; clear hi hb hk)
    | go_in)
  go_ret
  exact ⟨rfl, HB7.out⟩

theorem SumNil_all (a0 : ByteArray) (w : World) (hT : TabIn w) : Calls Tryd.prog 8 #[.string a0] w fun e w' => e = .returned (.bool true) ∧ Below w.heap.size w w' := by
  exact SumNil_walk a0 ⟨#[97]⟩ 3251651376 w hT 50 rfl (awake01 50 (by decide)) (by kernel_rfl) (by kernel_rfl)
end Go.Proofs.YtbanbeaemmlikaaDoor.Px
