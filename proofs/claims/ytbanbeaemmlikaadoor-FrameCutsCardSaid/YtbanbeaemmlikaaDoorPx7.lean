/- Written by px.py, a program of this place (it runs the print of the kit with turns of its own): each Go function as a plain Lean function, and the proof that a call of the Go function comes to it. Conditions: none but what each theorem says. -/
import Derived.Test.YtbanbeaemmlikaaDoorPx0
import Derived.Test.YtbanbeaemmlikaaDoorPx1
import Derived.Test.YtbanbeaemmlikaaDoorVput
namespace Go.Proofs.YtbanbeaemmlikaaDoor.Px
open Go.RowKit Go.Proofs.YtbanbeaemmlikaaDoorW.PrintWords Go.Proofs.YtbanbeaemmlikaaDoorW.PrintLast Go.Proofs.YtbanbeaemmlikaaDoorW.PrintMore
attribute [local go_sem high] not_u32
attribute [local go_sem] max2_int min2_int max_two min_two max_three min_three max_four min_four   -- for this text's walks alone
set_option linter.unusedVariables false
set_option linter.unusedSimpArgs false

/-! ### vint_Put: function 48: proved by hand -/

/-! ### frame_Put: function 37 -/
def frame_Put.f (k : Nat) (a0 : ByteArray) : Option (ByteArray × Int) := if (a0.size : Int) > 70000 then (some ((⟨#[]⟩ : ByteArray), 11)) else ((vint_Put.f (IntKind.u64.wrap ((a0.size : Int)))).bind fun t200 => ((sum_Sealed.f k a0).bind fun t201 => (if t200.size + t201.size ≤ 9223372036854775807 then (some (t200 ++ t201, 0)) else (none))))
theorem frame_Put.mono : ∀ a0 k, LeO (frame_Put.f k a0) (frame_Put.f (k + 1) a0) := by
  intro a0 k
  unfold frame_Put.f
  repeat' first
      | (with_reducible exact sum_Sealed.mono _ _)
      | (with_reducible exact LeO.refl _)
      | (with_reducible exact LeO.none _)
      | (with_reducible refine LeO.ite ?_ ?_)
      | (with_reducible refine LeO.bind ?_ (fun _ => ?_))
      | exact sum_Sealed.mono _ _
      | exact LeO.none _
      | refine LeO.ite ?_ ?_
      | refine LeO.bind ?_ (fun _ => ?_)
set_option maxHeartbeats 8000000 in
set_option maxRecDepth 100000 in
theorem frame_Put.calls (k : Nat) (a0 : ByteArray) (r1 : ByteArray) (r2 : Int) (w : World) (hT : TabIn w) (h : frame_Put.f k a0 = some (r1, r2)) :
    Calls Tryd.prog 37 #[.string a0] w fun e w' => e = .returned (.tuple #[.string r1, .int .i64 r2]) ∧ Below w.heap.size w w' := by
  have HTB := Aside0.mk hT
  clear hT
  have HB := Aside0.mk (Below.refl w.heap.size w)
  have H : (if (a0.size : Int) > 70000 then (some ((⟨#[]⟩ : ByteArray), 11)) else ((vint_Put.f (IntKind.u64.wrap ((a0.size : Int)))).bind fun t200 => ((sum_Sealed.f k a0).bind fun t201 => (if t200.size + t201.size ≤ 9223372036854775807 then (some (t200 ++ t201, 0)) else (none))))) = some (r1, r2) := h
  clear h
  by_cases c2 : (a0.size : Int) > 70000
  · rw [if_pos c2] at H
    have c2b0 : decide (70000 < (a0.size : Int)) = true := decide_eq_true c2
    have c2b1 : decide (70000 < a0.size) = true := decide_eq_true (by omega)
    clear c2
    simp only [Option.some.injEq, Prod.mk.injEq] at H
    obtain ⟨rfl, rfl⟩ := H
    go_enter Tryd.func37, Tryd.ntmps37
    go_wp2
    go_ret2
    exact ⟨by first | rfl | (simp [errW_none, errW_some] <;> rfl) | (simp [*, errW_none, errW_some] <;> rfl), by repeat (first | (with_reducible first | exact HB.out | apply below_alloc | apply pw_below_drewN | apply below_drew1) | exact HB.out)⟩
  · rw [if_neg c2] at H
    have c2b0 : decide (70000 < (a0.size : Int)) = false := decide_eq_false c2
    have c2b1 : decide (70000 < a0.size) = false := decide_eq_false (by omega)
    clear c2
    replace H := Option.bind_eq_some_iff.mp H
    obtain ⟨t200, A30, H⟩ := H
    replace H : ((sum_Sealed.f k a0).bind fun t201 => (if t200.size + t201.size ≤ 9223372036854775807 then (some (t200 ++ t201, 0)) else (none))) = some (r1, r2) := H
    have A3 := Aside0.mk A30
    clear A30
    replace H := Option.bind_eq_some_iff.mp H
    obtain ⟨t201, A40, H⟩ := H
    replace H : (if t200.size + t201.size ≤ 9223372036854775807 then (some (t200 ++ t201, 0)) else (none)) = some (r1, r2) := H
    have A4 := Aside0.mk A40
    clear A40
    by_cases c5 : t200.size + t201.size ≤ 9223372036854775807
    · rw [if_pos c5] at H
      have c5b0 := eq_true c5
      have c5b1 : decide (t200.size + t201.size ≤ 9223372036854775807) = true := decide_eq_true c5
      try have c5b2 : (9223372036854775807 < t200.size + t201.size) = False := eq_false (Nat.not_lt.2 c5)
      simp only [Option.some.injEq, Prod.mk.injEq] at H
      obtain ⟨rfl, rfl⟩ := H
      go_enter Tryd.func37, Tryd.ntmps37
      go_wp2_with (first | ((with_reducible refine gate_callee (f := 48) rfl ?_); refine goesL_ (some 10) rfl rfl Tryd.func48 (by kernel_rfl) rfl #[.int .u64 (IntKind.u64.wrap ((a0.size : Int)))] rfl (by (try simp only [List.map_toArray, List.map_cons, List.map_nil]); first | done | rfl | (simp only [List.length_drop, List.length_take]; rfl)) ?_; (with_reducible refine (vint_Put.calls (IntKind.u64.wrap ((a0.size : Int))) t200 _ A3.out).mono ?_); rintro e w6 ⟨rfl, hb⟩; refine ⟨_, rfl, ?_⟩; have n0_ := Aside0.mk (below_step (by repeat (first | (with_reducible first | exact HB.out | apply below_alloc | apply pw_below_drewN | apply below_drew1) | exact HB.out)) hb); clear HB; have HB := n0_; clear n0_; (try clear hb); (try clear hb2); (try clear hk); (try clear hi)) | ((with_reducible refine gate_callee (f := 22) rfl ?_); refine goesL_ (some 12) rfl rfl Tryd.func22 (by kernel_rfl) rfl #[.string a0] rfl (by (try simp only [List.map_toArray, List.map_cons, List.map_nil]); first | done | rfl | (simp only [List.length_drop, List.length_take]; rfl)) ?_; (with_reducible refine (sum_Sealed.calls k a0 t201 _ ?side1 A4.out).mono ?_); (case side1 => exact TabIn.below HTB.out (by repeat (first | (with_reducible first | exact HB.out | apply below_alloc | apply pw_below_drewN | apply below_drew1) | exact HB.out))); rintro e w7 ⟨rfl, hb⟩; refine ⟨_, rfl, ?_⟩; have n0_ := Aside0.mk (below_step (by repeat (first | (with_reducible first | exact HB.out | apply below_alloc | apply pw_below_drewN | apply below_drew1) | exact HB.out)) hb); clear HB; have HB := n0_; clear n0_; (try clear hb); (try clear hb2); (try clear hk); (try clear hi)))
      go_ret2
      exact ⟨by first | rfl | (simp [errW_none, errW_some] <;> rfl) | (simp [*, errW_none, errW_some] <;> rfl), by repeat (first | (with_reducible first | exact HB.out | apply below_alloc | apply pw_below_drewN | apply below_drew1) | exact HB.out)⟩
    · rw [if_neg c5] at H
      exact absurd H (by simp)

-- NOT PRINTED: function 55 (abi_NoEscape)

-- NOT PRINTED: function 54 (strings_Builder_copyCheck)

-- NOT PRINTED: function 50 (strings_Builder_WriteString)

-- NOT PRINTED: function 51 (strings_Builder_String)

end Go.Proofs.YtbanbeaemmlikaaDoor.Px
