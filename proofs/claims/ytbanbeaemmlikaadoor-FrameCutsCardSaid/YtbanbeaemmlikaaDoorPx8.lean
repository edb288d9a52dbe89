/- Written by px.py, a program of this place (it runs the print of the kit with turns of its own): each Go function as a plain Lean function, and the proof that a call of the Go function comes to it. Conditions: none but what each theorem says. -/
import Derived.Test.YtbanbeaemmlikaaDoorPx0
namespace Go.Proofs.YtbanbeaemmlikaaDoor.Px
open Go.RowKit Go.Proofs.YtbanbeaemmlikaaDoorW.PrintWords Go.Proofs.YtbanbeaemmlikaaDoorW.PrintLast Go.Proofs.YtbanbeaemmlikaaDoorW.PrintMore
attribute [local go_sem high] not_u32
attribute [local go_sem] max2_int min2_int max_two min_two max_three min_three max_four min_four   -- for this text's walks alone
set_option linter.unusedVariables false
set_option linter.unusedSimpArgs false

/-! ### frame_All: function 40: proved by hand -/

/-! ### frame_early: function 52 -/
def frame_early.l0 : Nat → ByteArray → Int → Int → Option (Bool)
  | 0, _, _, _ => none
  | k + 1, x0, x5, x6 => if x6 < x5 then (if 0 ≤ x6 then (if x6 < (x0.size : Int) then (if (bt x0 x6) < 128 then (some false) else (if x6 = 9 then (some false) else (frame_early.l0 k x0 x5 (wrap64 (x6 + 1))))) else (none)) else (none)) else (some true)
def frame_early.f (k : Nat) (a0 : ByteArray) : Option (Bool) := frame_early.l0 k a0 (a0.size : Int) 0
theorem frame_early.mono_l : ∀ k, (∀ y0 y1 y2, LeO (frame_early.l0 k y0 y1 y2) (frame_early.l0 (k + 1) y0 y1 y2))
  | 0 => fun _ _ _ r h => by simp [frame_early.l0] at h
  | k + 1 => by
    have ih0 := frame_early.mono_l k
    · intro y0 y1 y2
      unfold frame_early.l0
      repeat' first
      | (with_reducible exact ih0 _ _ _)
      | (with_reducible exact LeO.refl _)
      | (with_reducible exact LeO.none _)
      | (with_reducible refine LeO.ite ?_ ?_)
      | (with_reducible refine LeO.bind ?_ (fun _ => ?_))
      | exact ih0 _ _ _
      | exact LeO.none _
      | refine LeO.ite ?_ ?_
      | refine LeO.bind ?_ (fun _ => ?_)
theorem frame_early.mono : ∀ a0 k, LeO (frame_early.f k a0) (frame_early.f (k + 1) a0) := by
  intro a0 k
  have ih0 := frame_early.mono_l k
  unfold frame_early.f
  repeat' first
      | (with_reducible exact ih0 _ _ _)
      | (with_reducible exact LeO.refl _)
      | (with_reducible exact LeO.none _)
      | (with_reducible refine LeO.ite ?_ ?_)
      | (with_reducible refine LeO.bind ?_ (fun _ => ?_))
      | exact ih0 _ _ _
      | exact LeO.none _
      | refine LeO.ite ?_ ?_
      | refine LeO.bind ?_ (fun _ => ?_)
set_option maxHeartbeats 8000000 in
set_option maxRecDepth 100000 in
theorem frame_early.calls (k : Nat) (a0 : ByteArray) (r : Bool) (w : World) (h : frame_early.f k a0 = some r) :
    Calls Tryd.prog 52 #[.string a0] w fun e w' => e = .returned (.bool r) ∧ Drawn0 w w' := by
  have H : (frame_early.l0 k a0 (a0.size : Int) 0) = some r := h
  clear h
  have H' := Aside0.mk H
  clear H
  go_enter Tryd.func52, Tryd.ntmps52
  go_wp2
  go_loopg [6] k (fun kq v6 w' => ∃ (x6_1 : Int), v6 = .int .i64 x6_1 ∧ Aside0 (frame_early.l0 kq a0 (a0.size : Int) x6_1 = some r) ∧ Aside0 (kq ≤ k) ∧ Drawn0 w w')
  case atStart => exact ⟨(0), (by first | rfl | (simp; done) | (simp [*]; done)), H', ⟨Nat.le_refl _⟩, by repeat (first | exact Drawn0.refl _ | apply Drawn0.step)⟩
  case round =>
    clear H'
    obtain ⟨x6_1, rfl, HA, HK1, ⟨m1, rfl⟩⟩ := hrel
    cases gk with
    | zero => exact absurd HA.out (by simp [frame_early.l0])
    | succ k1 =>
      have H := HA.out
      clear HA
      simp only [frame_early.l0] at H
      by_cases c2 : x6_1 < (a0.size : Int)
      · rw [if_pos c2] at H
        have c2b0 : decide (x6_1 < (a0.size : Int)) = true := decide_eq_true c2
        clear c2
        by_cases c3 : 0 ≤ x6_1
        · rw [if_pos c3] at H
          have c3b0 : decide (0 ≤ x6_1) = true := decide_eq_true c3
          clear c3
          by_cases c4 : x6_1 < (a0.size : Int)
          · rw [if_pos c4] at H
            have c4b0 : decide (x6_1 < (a0.size : Int)) = true := decide_eq_true c4
            clear c4
            by_cases c6 : (bt a0 x6_1) < 128
            · rw [if_pos c6] at H
              have c6b0 : decide ((bt a0 x6_1) < 128) = true := decide_eq_true c6
              clear c6
              obtain rfl := Option.some.inj H
              have p5 : 0 ≤ (x6_1 : Int) := of_decide_eq_true (by first | (with_reducible assumption) | assumption)
              have q5 : x6_1 < (a0.size : Int) := of_decide_eq_true (by first | (with_reducible assumption) | assumption)
              have hx5 := bt_at a0 x6_1
              replace p5 := eq_true p5
              replace q5 := eq_true q5
              go_wp2
              go_ret
              exact ⟨by first | rfl | (simp; done) | (simp [*]; done), by repeat (first | exact Drawn0.refl _ | apply Drawn0.step)⟩
            · rw [if_neg c6] at H
              have c6b0 : decide ((bt a0 x6_1) < 128) = false := decide_eq_false c6
              clear c6
              by_cases c7 : x6_1 = 9
              · rw [if_pos c7] at H
                have c7b0 : (x6_1 == 9) = true := beq_iff_eq.mpr c7
                have c7b1 : (x6_1 != 9) = false := bne_eq_false_iff_eq.mpr c7
                clear c7
                obtain rfl := Option.some.inj H
                have p5 : 0 ≤ (x6_1 : Int) := of_decide_eq_true (by first | (with_reducible assumption) | assumption)
                have q5 : x6_1 < (a0.size : Int) := of_decide_eq_true (by first | (with_reducible assumption) | assumption)
                have hx5 := bt_at a0 x6_1
                replace p5 := eq_true p5
                replace q5 := eq_true q5
                go_wp2
                go_ret
                exact ⟨by first | rfl | (simp; done) | (simp [*]; done), by repeat (first | exact Drawn0.refl _ | apply Drawn0.step)⟩
              · rw [if_neg c7] at H
                have c7b0 : (x6_1 == 9) = false := beq_eq_false_iff_ne.mpr c7
                have c7b1 : (x6_1 != 9) = true := bne_iff_ne.mpr c7
                have H' := Aside0.mk H
                clear H
                have p5 : 0 ≤ (x6_1 : Int) := of_decide_eq_true (by first | (with_reducible assumption) | assumption)
                have q5 : x6_1 < (a0.size : Int) := of_decide_eq_true (by first | (with_reducible assumption) | assumption)
                have hx5 := bt_at a0 x6_1
                replace p5 := eq_true p5
                replace q5 := eq_true q5
                go_wp2
                go_roundg k1
                case measure => have := HK1.out; omega
                case rel => exact ⟨(wrap64 (x6_1 + 1)), (by first | rfl | (simp; done) | (simp [*]; done)), H', ⟨by have := HK1.out; omega⟩, by repeat (first | exact Drawn0.refl _ | apply Drawn0.step)⟩
          · rw [if_neg c4] at H
            exact absurd H (by simp)
        · rw [if_neg c3] at H
          exact absurd H (by simp)
      · rw [if_neg c2] at H
        have c2b0 : decide (x6_1 < (a0.size : Int)) = false := decide_eq_false c2
        clear c2
        obtain rfl := Option.some.inj H
        go_wp2
        go_ret
        exact ⟨by first | rfl | (simp; done) | (simp [*]; done), by repeat (first | exact Drawn0.refl _ | apply Drawn0.step)⟩

/-! ### vint_Get: function 53 -/
mutual
def vint_Get.j0 : Nat → ByteArray → Int → Bool → Option (Int × Int × Int)
  | 0, _, _, _ => none
  | k + 1, x0, x1, x18 => if x18 = true then (some (0, 0, 10)) else (vint_Get.l0 k x0 x1 0 0)
def vint_Get.l0 : Nat → ByteArray → Int → Int → Int → Option (Int × Int × Int)
  | 0, _, _, _, _ => none
  | k + 1, x0, x1, x7, x8 => if x8 = 10 then (vint_Get.j2 k x0 x1 x7 x8 true) else (vint_Get.j2 k x0 x1 x7 x8 (decide ((wrap64 (x1 + x8)) ≥ (x0.size : Int))))
def vint_Get.j2 : Nat → ByteArray → Int → Int → Int → Bool → Option (Int × Int × Int)
  | 0, _, _, _, _, _ => none
  | k + 1, x0, x1, x7, x8, x28 => if x28 = true then (some (0, 0, 10)) else (if 0 ≤ (wrap64 (x1 + x8)) then (if (wrap64 (x1 + x8)) < (x0.size : Int) then (if 0 ≤ (wrap64 (7 * x8)) then (if (bt x0 (wrap64 (x1 + x8))) < 128 then (if 0 ≤ (wrap64 ((wrap64 (x1 + (wrap64 (x8 + 1)))) - 1)) then (if (wrap64 ((wrap64 (x1 + (wrap64 (x8 + 1)))) - 1)) < (x0.size : Int) then (if (wrap64 (x8 + 1)) > 1 then (if (bt x0 (wrap64 ((wrap64 (x1 + (wrap64 (x8 + 1)))) - 1))) = 0 then (some (0, 0, 10)) else (if (wrap64 (x8 + 1)) = 10 then (if (bt x0 (wrap64 ((wrap64 (x1 + (wrap64 (x8 + 1)))) - 1))) > 1 then (some (0, 0, 10)) else (some (Go.bits .or .u64 x7 (shl .u64 (IntKind.u64.wrap (Go.bits .andNot .u8 (bt x0 (wrap64 (x1 + x8))) 128)) (wrap64 (7 * x8))), wrap64 (x1 + (wrap64 (x8 + 1))), 0))) else (some (Go.bits .or .u64 x7 (shl .u64 (IntKind.u64.wrap (Go.bits .andNot .u8 (bt x0 (wrap64 (x1 + x8))) 128)) (wrap64 (7 * x8))), wrap64 (x1 + (wrap64 (x8 + 1))), 0)))) else (if (wrap64 (x8 + 1)) = 10 then (if (bt x0 (wrap64 ((wrap64 (x1 + (wrap64 (x8 + 1)))) - 1))) > 1 then (some (0, 0, 10)) else (some (Go.bits .or .u64 x7 (shl .u64 (IntKind.u64.wrap (Go.bits .andNot .u8 (bt x0 (wrap64 (x1 + x8))) 128)) (wrap64 (7 * x8))), wrap64 (x1 + (wrap64 (x8 + 1))), 0))) else (some (Go.bits .or .u64 x7 (shl .u64 (IntKind.u64.wrap (Go.bits .andNot .u8 (bt x0 (wrap64 (x1 + x8))) 128)) (wrap64 (7 * x8))), wrap64 (x1 + (wrap64 (x8 + 1))), 0)))) else (none)) else (none)) else (vint_Get.l0 k x0 x1 (Go.bits .or .u64 x7 (shl .u64 (IntKind.u64.wrap (Go.bits .andNot .u8 (bt x0 (wrap64 (x1 + x8))) 128)) (wrap64 (7 * x8)))) (wrap64 (x8 + 1)))) else (none)) else (none)) else (none))
end
def vint_Get.f (k : Nat) (a0 : ByteArray) (a1 : Int) : Option (Int × Int × Int) := if a1 < 0 then (vint_Get.j0 k a0 a1 true) else (vint_Get.j0 k a0 a1 (decide (a1 ≥ (a0.size : Int))))
theorem vint_Get.mono_l : ∀ k, (∀ y0 y1 y2, LeO (vint_Get.j0 k y0 y1 y2) (vint_Get.j0 (k + 1) y0 y1 y2)) ∧ (∀ y0 y1 y2 y3, LeO (vint_Get.l0 k y0 y1 y2 y3) (vint_Get.l0 (k + 1) y0 y1 y2 y3)) ∧ (∀ y0 y1 y2 y3 y4, LeO (vint_Get.j2 k y0 y1 y2 y3 y4) (vint_Get.j2 (k + 1) y0 y1 y2 y3 y4))
  | 0 => ⟨fun _ _ _ r h => by simp [vint_Get.j0] at h, fun _ _ _ _ r h => by simp [vint_Get.l0] at h, fun _ _ _ _ _ r h => by simp [vint_Get.j2] at h⟩
  | k + 1 => by
    obtain ⟨ih0, ih1, ih2⟩ := vint_Get.mono_l k
    refine ⟨?_, ?_, ?_⟩
    · intro y0 y1 y2
      unfold vint_Get.j0
      repeat' first
      | (with_reducible exact ih0 _ _ _)
      | (with_reducible exact ih1 _ _ _ _)
      | (with_reducible exact ih2 _ _ _ _ _)
      | (with_reducible exact LeO.refl _)
      | (with_reducible exact LeO.none _)
      | (with_reducible refine LeO.ite ?_ ?_)
      | (with_reducible refine LeO.bind ?_ (fun _ => ?_))
      | exact ih0 _ _ _
      | exact ih1 _ _ _ _
      | exact ih2 _ _ _ _ _
      | exact LeO.none _
      | refine LeO.ite ?_ ?_
      | refine LeO.bind ?_ (fun _ => ?_)
    · intro y0 y1 y2 y3
      unfold vint_Get.l0
      repeat' first
      | (with_reducible exact ih0 _ _ _)
      | (with_reducible exact ih1 _ _ _ _)
      | (with_reducible exact ih2 _ _ _ _ _)
      | (with_reducible exact LeO.refl _)
      | (with_reducible exact LeO.none _)
      | (with_reducible refine LeO.ite ?_ ?_)
      | (with_reducible refine LeO.bind ?_ (fun _ => ?_))
      | exact ih0 _ _ _
      | exact ih1 _ _ _ _
      | exact ih2 _ _ _ _ _
      | exact LeO.none _
      | refine LeO.ite ?_ ?_
      | refine LeO.bind ?_ (fun _ => ?_)
    · intro y0 y1 y2 y3 y4
      unfold vint_Get.j2
      repeat' first
      | (with_reducible exact ih0 _ _ _)
      | (with_reducible exact ih1 _ _ _ _)
      | (with_reducible exact ih2 _ _ _ _ _)
      | (with_reducible exact LeO.refl _)
      | (with_reducible exact LeO.none _)
      | (with_reducible refine LeO.ite ?_ ?_)
      | (with_reducible refine LeO.bind ?_ (fun _ => ?_))
      | exact ih0 _ _ _
      | exact ih1 _ _ _ _
      | exact ih2 _ _ _ _ _
      | exact LeO.none _
      | refine LeO.ite ?_ ?_
      | refine LeO.bind ?_ (fun _ => ?_)
theorem vint_Get.mono : ∀ a0 a1 k, LeO (vint_Get.f k a0 a1) (vint_Get.f (k + 1) a0 a1) := by
  intro a0 a1 k
  obtain ⟨ih0, ih1, ih2⟩ := vint_Get.mono_l k
  unfold vint_Get.f
  repeat' first
      | (with_reducible exact ih0 _ _ _)
      | (with_reducible exact ih1 _ _ _ _)
      | (with_reducible exact ih2 _ _ _ _ _)
      | (with_reducible exact LeO.refl _)
      | (with_reducible exact LeO.none _)
      | (with_reducible refine LeO.ite ?_ ?_)
      | (with_reducible refine LeO.bind ?_ (fun _ => ?_))
      | exact ih0 _ _ _
      | exact ih1 _ _ _ _
      | exact ih2 _ _ _ _ _
      | exact LeO.none _
      | refine LeO.ite ?_ ?_
      | refine LeO.bind ?_ (fun _ => ?_)
set_option maxHeartbeats 8000000 in
set_option maxRecDepth 100000 in
theorem vint_Get.calls (k : Nat) (a0 : ByteArray) (a1 : Int) (r1 : Int) (r2 : Int) (r3 : Int) (w : World) (h : vint_Get.f k a0 a1 = some (r1, r2, r3)) :
    Calls Tryd.prog 53 #[.string a0, .int .i64 a1] w fun e w' => e = .returned (.tuple #[.int .u64 r1, .int .i64 r2, .int .i64 r3]) ∧ Drawn0 w w' := by
  have H : (if a1 < 0 then (vint_Get.j0 k a0 a1 true) else (vint_Get.j0 k a0 a1 (decide (a1 ≥ (a0.size : Int))))) = some (r1, r2, r3) := h
  clear h
  have HC3 := Aside0.mk H
  clear H
  go_enter Tryd.func53, Tryd.ntmps53
  go_wp2_with fail
  go_step3
  go_upto_region 1 with (fail)
  go_cut [18] (fun v18 wc => ∃ (kq : Nat) (x18_2 : Bool), v18 = .bool x18_2 ∧ Aside0 (vint_Get.j0 kq a0 a1 x18_2 = some (r1, r2, r3)) ∧ Aside0 (kq ≤ k) ∧ Drawn0 w wc)
  case first =>
    have H := HC3.out
    clear HC3
    by_cases c4 : a1 < 0
    · rw [if_pos c4] at H
      have c4b0 : decide (a1 < 0) = true := decide_eq_true c4
      clear c4
      (first | rw [c4b0] | (simp only [i64_w, i32_w]; rw [c4b0]) | skip)
      have H' := Aside0.mk H
      clear H
      go_wp2
      go_meet
      case rel => exact ⟨_, (true), (by first | rfl | (simp; done) | (simp [*]; done)), H', ⟨by first | omega | exact Nat.le_refl _⟩, by repeat (first | exact Drawn0.refl _ | apply Drawn0.step)⟩
    · rw [if_neg c4] at H
      have c4b0 : decide (a1 < 0) = false := decide_eq_false c4
      clear c4
      (first | rw [c4b0] | (simp only [i64_w, i32_w]; rw [c4b0]) | skip)
      have H' := Aside0.mk H
      clear H
      go_wp2
      go_meet
      case rel => exact ⟨_, (decide (a1 ≥ (a0.size : Int))), (by first | rfl | (simp; done) | (simp [*]; done)), H', ⟨by first | omega | exact Nat.le_refl _⟩, by repeat (first | exact Drawn0.refl _ | apply Drawn0.step)⟩
  case rest =>
    clear HC3
    try clear p2
    try clear c4
    try clear c4b0
    obtain ⟨kq, x18_2, rfl, HA, HJ2, ⟨mc2, rfl⟩⟩ := hcut
    cases kq with
    | zero => exact absurd HA.out (by simp [vint_Get.j0])
    | succ kj2 =>
      have H := HA.out
      clear HA
      simp only [vint_Get.j0] at H
      by_cases c5 : x18_2 = true
      · subst c5
        have H1 : (some (0, 0, 10)) = some (r1, r2, r3) := by rw [if_pos rfl] at H; exact H
        clear H
        have H := H1
        clear H1
        simp only [Option.some.injEq, Prod.mk.injEq] at H
        obtain ⟨rfl, rfl, rfl⟩ := H
        go_wp2
        (try rw [Exit.noGoto_ret])
        go_ret3
        exact ⟨by first | rfl | (simp; done) | (simp [*]; done), by repeat (first | exact Drawn0.refl _ | apply Drawn0.step)⟩
      · replace c5 := Bool.eq_false_iff.mpr c5
        subst c5
        have H1 : (vint_Get.l0 kj2 a0 a1 0 0) = some (r1, r2, r3) := by rw [if_neg (show ¬ (false = true) by decide)] at H; exact H
        clear H
        have H := H1
        clear H1
        have H' := Aside0.mk H
        clear H
        go_wp2
        (try (go_step3; go_wp2))
        go_loopg [7, 8] kj2 (fun kq v7 v8 w' => ∃ (x7_2 : Int) (x8_2 : Int), v7 = .int .u64 x7_2 ∧ v8 = .int .i64 x8_2 ∧ Aside0 (vint_Get.l0 kq a0 a1 x7_2 x8_2 = some (r1, r2, r3)) ∧ Aside0 (kq ≤ kj2) ∧ Drawn0 w w')
        case atStart => exact ⟨(0), (0), (by first | rfl | (simp; done) | (simp [*]; done)), (by first | rfl | (simp; done) | (simp [*]; done)), H', ⟨Nat.le_refl _⟩, by repeat (first | exact Drawn0.refl _ | apply Drawn0.step)⟩
        case round =>
          clear H'
          try clear c2
          try clear p2
          try clear c4
          try clear c4b0
          try clear c5
          try clear p2
          obtain ⟨x7_2, x8_2, rfl, rfl, HA, HK2, ⟨m2, rfl⟩⟩ := hrel
          cases gk with
          | zero => exact absurd HA.out (by simp [vint_Get.l0])
          | succ k2 =>
            have H := HA.out
            clear HA
            simp only [vint_Get.l0] at H
            have HC6 := Aside0.mk H
            clear H
            go_upto_region 4 with (fail)
            go_cut [28] (fun v28 wc => ∃ (kq : Nat) (x28_5 : Bool), v28 = .bool x28_5 ∧ Aside0 (vint_Get.j2 kq a0 a1 x7_2 x8_2 x28_5 = some (r1, r2, r3)) ∧ Aside0 (kq ≤ k2) ∧ Drawn0 w wc)
            case first =>
              have H := HC6.out
              clear HC6
              by_cases c7 : x8_2 = 10
              · rw [if_pos c7] at H
                have c7b0 : (x8_2 == 10) = true := beq_iff_eq.mpr c7
                have c7b1 : (x8_2 != 10) = false := bne_eq_false_iff_eq.mpr c7
                clear c7
                (first | rw [c7b0] | (simp only [i64_w, i32_w]; rw [c7b0]) | skip)
                have H' := Aside0.mk H
                clear H
                go_wp2
                go_meet
                case rel => exact ⟨_, (true), (by first | rfl | (simp; done) | (simp [*]; done)), H', ⟨by have := HJ2.out; have := HK2.out; first | omega | exact Nat.le_refl _⟩, by repeat (first | exact Drawn0.refl _ | apply Drawn0.step)⟩
              · rw [if_neg c7] at H
                have c7b0 : (x8_2 == 10) = false := beq_eq_false_iff_ne.mpr c7
                have c7b1 : (x8_2 != 10) = true := bne_iff_ne.mpr c7
                (first | rw [c7b0] | (simp only [i64_w, i32_w]; rw [c7b0]) | skip)
                have H' := Aside0.mk H
                clear H
                go_wp2
                go_meet
                case rel => exact ⟨_, (decide ((wrap64 (a1 + x8_2)) ≥ (a0.size : Int))), (by first | rfl | (simp; done) | (simp [*]; done)), H', ⟨by have := HJ2.out; have := HK2.out; first | omega | exact Nat.le_refl _⟩, by repeat (first | exact Drawn0.refl _ | apply Drawn0.step)⟩
            case rest =>
              clear HC6
              try clear c2
              try clear p2
              try clear c4
              try clear c4b0
              try clear c5
              try clear p6
              try clear c7
              try clear c7b0
              try clear c7b1
              try clear p2
              obtain ⟨kq, x28_5, rfl, HA, HJ5, ⟨mc5, rfl⟩⟩ := hcut
              cases kq with
              | zero => exact absurd HA.out (by simp [vint_Get.j2])
              | succ kj5 =>
                have H := HA.out
                clear HA
                simp only [vint_Get.j2] at H
                by_cases c8 : x28_5 = true
                · subst c8
                  have H1 : (some (0, 0, 10)) = some (r1, r2, r3) := by rw [if_pos rfl] at H; exact H
                  clear H
                  have H := H1
                  clear H1
                  simp only [Option.some.injEq, Prod.mk.injEq] at H
                  obtain ⟨rfl, rfl, rfl⟩ := H
                  go_wp2
                  (try rw [Exit.noGoto_ret])
                  go_ret3
                  exact ⟨by first | rfl | (simp; done) | (simp [*]; done), by repeat (first | exact Drawn0.refl _ | apply Drawn0.step)⟩
                · replace c8 := Bool.eq_false_iff.mpr c8
                  subst c8
                  have H1 : (if 0 ≤ (wrap64 (a1 + x8_2)) then (if (wrap64 (a1 + x8_2)) < (a0.size : Int) then (if 0 ≤ (wrap64 (7 * x8_2)) then (if (bt a0 (wrap64 (a1 + x8_2))) < 128 then (if 0 ≤ (wrap64 ((wrap64 (a1 + (wrap64 (x8_2 + 1)))) - 1)) then (if (wrap64 ((wrap64 (a1 + (wrap64 (x8_2 + 1)))) - 1)) < (a0.size : Int) then (if (wrap64 (x8_2 + 1)) > 1 then (if (bt a0 (wrap64 ((wrap64 (a1 + (wrap64 (x8_2 + 1)))) - 1))) = 0 then (some (0, 0, 10)) else (if (wrap64 (x8_2 + 1)) = 10 then (if (bt a0 (wrap64 ((wrap64 (a1 + (wrap64 (x8_2 + 1)))) - 1))) > 1 then (some (0, 0, 10)) else (some (Go.bits .or .u64 x7_2 (shl .u64 (IntKind.u64.wrap (Go.bits .andNot .u8 (bt a0 (wrap64 (a1 + x8_2))) 128)) (wrap64 (7 * x8_2))), wrap64 (a1 + (wrap64 (x8_2 + 1))), 0))) else (some (Go.bits .or .u64 x7_2 (shl .u64 (IntKind.u64.wrap (Go.bits .andNot .u8 (bt a0 (wrap64 (a1 + x8_2))) 128)) (wrap64 (7 * x8_2))), wrap64 (a1 + (wrap64 (x8_2 + 1))), 0)))) else (if (wrap64 (x8_2 + 1)) = 10 then (if (bt a0 (wrap64 ((wrap64 (a1 + (wrap64 (x8_2 + 1)))) - 1))) > 1 then (some (0, 0, 10)) else (some (Go.bits .or .u64 x7_2 (shl .u64 (IntKind.u64.wrap (Go.bits .andNot .u8 (bt a0 (wrap64 (a1 + x8_2))) 128)) (wrap64 (7 * x8_2))), wrap64 (a1 + (wrap64 (x8_2 + 1))), 0))) else (some (Go.bits .or .u64 x7_2 (shl .u64 (IntKind.u64.wrap (Go.bits .andNot .u8 (bt a0 (wrap64 (a1 + x8_2))) 128)) (wrap64 (7 * x8_2))), wrap64 (a1 + (wrap64 (x8_2 + 1))), 0)))) else (none)) else (none)) else (vint_Get.l0 kj5 a0 a1 (Go.bits .or .u64 x7_2 (shl .u64 (IntKind.u64.wrap (Go.bits .andNot .u8 (bt a0 (wrap64 (a1 + x8_2))) 128)) (wrap64 (7 * x8_2)))) (wrap64 (x8_2 + 1)))) else (none)) else (none)) else (none)) = some (r1, r2, r3) := by rw [if_neg (show ¬ (false = true) by decide)] at H; exact H
                  clear H
                  have H := H1
                  clear H1
                  obtain ⟨ji9, hji9⟩ : ∃ j_ : Int, (wrap64 (a1 + x8_2)) = j_ := ⟨_, rfl⟩
                  replace H : (if 0 ≤ (ji9) then (if (ji9) < (a0.size : Int) then (if 0 ≤ (wrap64 (7 * x8_2)) then (if (bt a0 (ji9)) < 128 then (if 0 ≤ (wrap64 ((wrap64 (a1 + (wrap64 (x8_2 + 1)))) - 1)) then (if (wrap64 ((wrap64 (a1 + (wrap64 (x8_2 + 1)))) - 1)) < (a0.size : Int) then (if (wrap64 (x8_2 + 1)) > 1 then (if (bt a0 (wrap64 ((wrap64 (a1 + (wrap64 (x8_2 + 1)))) - 1))) = 0 then (some (0, 0, 10)) else (if (wrap64 (x8_2 + 1)) = 10 then (if (bt a0 (wrap64 ((wrap64 (a1 + (wrap64 (x8_2 + 1)))) - 1))) > 1 then (some (0, 0, 10)) else (some (Go.bits .or .u64 x7_2 (shl .u64 (IntKind.u64.wrap (Go.bits .andNot .u8 (bt a0 (ji9)) 128)) (wrap64 (7 * x8_2))), wrap64 (a1 + (wrap64 (x8_2 + 1))), 0))) else (some (Go.bits .or .u64 x7_2 (shl .u64 (IntKind.u64.wrap (Go.bits .andNot .u8 (bt a0 (ji9)) 128)) (wrap64 (7 * x8_2))), wrap64 (a1 + (wrap64 (x8_2 + 1))), 0)))) else (if (wrap64 (x8_2 + 1)) = 10 then (if (bt a0 (wrap64 ((wrap64 (a1 + (wrap64 (x8_2 + 1)))) - 1))) > 1 then (some (0, 0, 10)) else (some (Go.bits .or .u64 x7_2 (shl .u64 (IntKind.u64.wrap (Go.bits .andNot .u8 (bt a0 (ji9)) 128)) (wrap64 (7 * x8_2))), wrap64 (a1 + (wrap64 (x8_2 + 1))), 0))) else (some (Go.bits .or .u64 x7_2 (shl .u64 (IntKind.u64.wrap (Go.bits .andNot .u8 (bt a0 (ji9)) 128)) (wrap64 (7 * x8_2))), wrap64 (a1 + (wrap64 (x8_2 + 1))), 0)))) else (none)) else (none)) else (vint_Get.l0 kj5 a0 a1 (Go.bits .or .u64 x7_2 (shl .u64 (IntKind.u64.wrap (Go.bits .andNot .u8 (bt a0 (ji9)) 128)) (wrap64 (7 * x8_2)))) (wrap64 (x8_2 + 1)))) else (none)) else (none)) else (none)) = some (r1, r2, r3) := by first | (rw [hji9] at H; exact H) | (simp only [hji9] at H ⊢; exact H)
                  have hji9w : (IntKind.i64.wrap (a1 + x8_2)) = ji9 := (i64_w _).trans hji9
                  by_cases c10 : 0 ≤ (ji9)
                  · rw [if_pos c10] at H
                    have c10b0 : decide (0 ≤ (ji9)) = true := decide_eq_true c10
                    clear c10
                    by_cases c11 : (ji9) < (a0.size : Int)
                    · rw [if_pos c11] at H
                      have c11b0 : decide ((ji9) < (a0.size : Int)) = true := decide_eq_true c11
                      clear c11
                      obtain ⟨ji13, hji13⟩ : ∃ j_ : Int, (wrap64 (7 * x8_2)) = j_ := ⟨_, rfl⟩
                      replace H : (if 0 ≤ (ji13) then (if (bt a0 (ji9)) < 128 then (if 0 ≤ (wrap64 ((wrap64 (a1 + (wrap64 (x8_2 + 1)))) - 1)) then (if (wrap64 ((wrap64 (a1 + (wrap64 (x8_2 + 1)))) - 1)) < (a0.size : Int) then (if (wrap64 (x8_2 + 1)) > 1 then (if (bt a0 (wrap64 ((wrap64 (a1 + (wrap64 (x8_2 + 1)))) - 1))) = 0 then (some (0, 0, 10)) else (if (wrap64 (x8_2 + 1)) = 10 then (if (bt a0 (wrap64 ((wrap64 (a1 + (wrap64 (x8_2 + 1)))) - 1))) > 1 then (some (0, 0, 10)) else (some (Go.bits .or .u64 x7_2 (shl .u64 (IntKind.u64.wrap (Go.bits .andNot .u8 (bt a0 (ji9)) 128)) (ji13)), wrap64 (a1 + (wrap64 (x8_2 + 1))), 0))) else (some (Go.bits .or .u64 x7_2 (shl .u64 (IntKind.u64.wrap (Go.bits .andNot .u8 (bt a0 (ji9)) 128)) (ji13)), wrap64 (a1 + (wrap64 (x8_2 + 1))), 0)))) else (if (wrap64 (x8_2 + 1)) = 10 then (if (bt a0 (wrap64 ((wrap64 (a1 + (wrap64 (x8_2 + 1)))) - 1))) > 1 then (some (0, 0, 10)) else (some (Go.bits .or .u64 x7_2 (shl .u64 (IntKind.u64.wrap (Go.bits .andNot .u8 (bt a0 (ji9)) 128)) (ji13)), wrap64 (a1 + (wrap64 (x8_2 + 1))), 0))) else (some (Go.bits .or .u64 x7_2 (shl .u64 (IntKind.u64.wrap (Go.bits .andNot .u8 (bt a0 (ji9)) 128)) (ji13)), wrap64 (a1 + (wrap64 (x8_2 + 1))), 0)))) else (none)) else (none)) else (vint_Get.l0 kj5 a0 a1 (Go.bits .or .u64 x7_2 (shl .u64 (IntKind.u64.wrap (Go.bits .andNot .u8 (bt a0 (ji9)) 128)) (ji13))) (wrap64 (x8_2 + 1)))) else (none)) = some (r1, r2, r3) := by first | (rw [hji13] at H; exact H) | (simp only [hji13] at H ⊢; exact H)
                      have hji13w : (IntKind.i64.wrap (7 * x8_2)) = ji13 := (i64_w _).trans hji13
                      by_cases c14 : 0 ≤ (ji13)
                      · rw [if_pos c14] at H
                        have c14b0 := eq_true c14
                        have c14b1 : decide (0 ≤ (ji13)) = true := decide_eq_true c14
                        clear c14
                        obtain ⟨ji15, hji15⟩ : ∃ j_ : Int, (shl .u64 (IntKind.u64.wrap (Go.bits .andNot .u8 (bt a0 (ji9)) 128)) (ji13)) = j_ := ⟨_, rfl⟩
                        replace H : (if (bt a0 (ji9)) < 128 then (if 0 ≤ (wrap64 ((wrap64 (a1 + (wrap64 (x8_2 + 1)))) - 1)) then (if (wrap64 ((wrap64 (a1 + (wrap64 (x8_2 + 1)))) - 1)) < (a0.size : Int) then (if (wrap64 (x8_2 + 1)) > 1 then (if (bt a0 (wrap64 ((wrap64 (a1 + (wrap64 (x8_2 + 1)))) - 1))) = 0 then (some (0, 0, 10)) else (if (wrap64 (x8_2 + 1)) = 10 then (if (bt a0 (wrap64 ((wrap64 (a1 + (wrap64 (x8_2 + 1)))) - 1))) > 1 then (some (0, 0, 10)) else (some (Go.bits .or .u64 x7_2 (ji15), wrap64 (a1 + (wrap64 (x8_2 + 1))), 0))) else (some (Go.bits .or .u64 x7_2 (ji15), wrap64 (a1 + (wrap64 (x8_2 + 1))), 0)))) else (if (wrap64 (x8_2 + 1)) = 10 then (if (bt a0 (wrap64 ((wrap64 (a1 + (wrap64 (x8_2 + 1)))) - 1))) > 1 then (some (0, 0, 10)) else (some (Go.bits .or .u64 x7_2 (ji15), wrap64 (a1 + (wrap64 (x8_2 + 1))), 0))) else (some (Go.bits .or .u64 x7_2 (ji15), wrap64 (a1 + (wrap64 (x8_2 + 1))), 0)))) else (none)) else (none)) else (vint_Get.l0 kj5 a0 a1 (Go.bits .or .u64 x7_2 (ji15)) (wrap64 (x8_2 + 1)))) = some (r1, r2, r3) := by first | (rw [hji15] at H; exact H) | (simp only [hji15] at H ⊢; exact H)
                        have hji15_ : (IntKind.u64.wrap ((IntKind.u64.wrap (Go.bits .andNot .u8 (bt a0 (ji9)) 128)) * 2 ^ min (ji13).toNat 64)) = ji15 := hji15
                        have hji15z : (ji13) ≤ 64 → (IntKind.u64.wrap ((IntKind.u64.wrap (Go.bits .andNot .u8 (bt a0 (ji9)) 128)) * 2 ^ (ji13).toNat)) = ji15 := shl_small hji15
                        by_cases c16 : (bt a0 (ji9)) < 128
                        · rw [if_pos c16] at H
                          have c16b0 : decide ((bt a0 (ji9)) < 128) = true := decide_eq_true c16
                          clear c16
                          obtain ⟨ji17, hji17⟩ : ∃ j_ : Int, (wrap64 ((wrap64 (a1 + (wrap64 (x8_2 + 1)))) - 1)) = j_ := ⟨_, rfl⟩
                          replace H : (if 0 ≤ (ji17) then (if (ji17) < (a0.size : Int) then (if (wrap64 (x8_2 + 1)) > 1 then (if (bt a0 (ji17)) = 0 then (some (0, 0, 10)) else (if (wrap64 (x8_2 + 1)) = 10 then (if (bt a0 (ji17)) > 1 then (some (0, 0, 10)) else (some (Go.bits .or .u64 x7_2 (ji15), wrap64 (a1 + (wrap64 (x8_2 + 1))), 0))) else (some (Go.bits .or .u64 x7_2 (ji15), wrap64 (a1 + (wrap64 (x8_2 + 1))), 0)))) else (if (wrap64 (x8_2 + 1)) = 10 then (if (bt a0 (ji17)) > 1 then (some (0, 0, 10)) else (some (Go.bits .or .u64 x7_2 (ji15), wrap64 (a1 + (wrap64 (x8_2 + 1))), 0))) else (some (Go.bits .or .u64 x7_2 (ji15), wrap64 (a1 + (wrap64 (x8_2 + 1))), 0)))) else (none)) else (none)) = some (r1, r2, r3) := by first | (rw [hji17] at H; exact H) | (simp only [hji17] at H ⊢; exact H)
                          have hji17w : (IntKind.i64.wrap ((wrap64 (a1 + (wrap64 (x8_2 + 1)))) - 1)) = ji17 := (i64_w _).trans hji17
                          by_cases c18 : 0 ≤ (ji17)
                          · rw [if_pos c18] at H
                            have c18b0 : decide (0 ≤ (ji17)) = true := decide_eq_true c18
                            clear c18
                            by_cases c19 : (ji17) < (a0.size : Int)
                            · rw [if_pos c19] at H
                              have c19b0 : decide ((ji17) < (a0.size : Int)) = true := decide_eq_true c19
                              clear c19
                              by_cases c21 : (wrap64 (x8_2 + 1)) > 1
                              · rw [if_pos c21] at H
                                have c21b0 : decide (1 < (wrap64 (x8_2 + 1))) = true := decide_eq_true c21
                                clear c21
                                by_cases c22 : (bt a0 (ji17)) = 0
                                · rw [if_pos c22] at H
                                  have c22b0 : ((bt a0 (ji17)) == 0) = true := beq_iff_eq.mpr c22
                                  have c22b1 : ((bt a0 (ji17)) != 0) = false := bne_eq_false_iff_eq.mpr c22
                                  clear c22
                                  simp only [Option.some.injEq, Prod.mk.injEq] at H
                                  obtain ⟨rfl, rfl, rfl⟩ := H
                                  have p12 : 0 ≤ ((ji9) : Int) := of_decide_eq_true (by first | (with_reducible assumption) | assumption)
                                  have q12 : (ji9) < (a0.size : Int) := of_decide_eq_true (by first | (with_reducible assumption) | assumption)
                                  have hx12 := bt_at a0 (ji9)
                                  replace p12 := eq_true p12
                                  replace q12 := eq_true q12
                                  have p20 : 0 ≤ ((ji17) : Int) := of_decide_eq_true (by first | (with_reducible assumption) | assumption)
                                  have q20 : (ji17) < (a0.size : Int) := of_decide_eq_true (by first | (with_reducible assumption) | assumption)
                                  have hx20 := bt_at a0 (ji17)
                                  replace p20 := eq_true p20
                                  replace q20 := eq_true q20
                                  go_wp2
                                  (try rw [Exit.noGoto_ret])
                                  go_ret3
                                  exact ⟨by first | rfl | (simp; done) | (simp only [← hji9, ← hji13, ← hji15, ← hji17] <;> (first | rfl | simp)) | (simp [*]; done), by repeat (first | exact Drawn0.refl _ | apply Drawn0.step)⟩
                                · rw [if_neg c22] at H
                                  have c22b0 : ((bt a0 (ji17)) == 0) = false := beq_eq_false_iff_ne.mpr c22
                                  have c22b1 : ((bt a0 (ji17)) != 0) = true := bne_iff_ne.mpr c22
                                  by_cases c23 : (wrap64 (x8_2 + 1)) = 10
                                  · rw [if_pos c23] at H
                                    have c23b0 : ((wrap64 (x8_2 + 1)) == 10) = true := beq_iff_eq.mpr c23
                                    have c23b1 : ((wrap64 (x8_2 + 1)) != 10) = false := bne_eq_false_iff_eq.mpr c23
                                    clear c23
                                    by_cases c24 : (bt a0 (ji17)) > 1
                                    · rw [if_pos c24] at H
                                      have c24b0 : decide (1 < (bt a0 (ji17))) = true := decide_eq_true c24
                                      clear c24
                                      simp only [Option.some.injEq, Prod.mk.injEq] at H
                                      obtain ⟨rfl, rfl, rfl⟩ := H
                                      have p12 : 0 ≤ ((ji9) : Int) := of_decide_eq_true (by first | (with_reducible assumption) | assumption)
                                      have q12 : (ji9) < (a0.size : Int) := of_decide_eq_true (by first | (with_reducible assumption) | assumption)
                                      have hx12 := bt_at a0 (ji9)
                                      replace p12 := eq_true p12
                                      replace q12 := eq_true q12
                                      have p20 : 0 ≤ ((ji17) : Int) := of_decide_eq_true (by first | (with_reducible assumption) | assumption)
                                      have q20 : (ji17) < (a0.size : Int) := of_decide_eq_true (by first | (with_reducible assumption) | assumption)
                                      have hx20 := bt_at a0 (ji17)
                                      replace p20 := eq_true p20
                                      replace q20 := eq_true q20
                                      go_wp2
                                      (try rw [Exit.noGoto_ret])
                                      go_ret3
                                      exact ⟨by first | rfl | (simp; done) | (simp only [← hji9, ← hji13, ← hji15, ← hji17] <;> (first | rfl | simp)) | (simp [*]; done), by repeat (first | exact Drawn0.refl _ | apply Drawn0.step)⟩
                                    · rw [if_neg c24] at H
                                      have c24b0 : decide (1 < (bt a0 (ji17))) = false := decide_eq_false c24
                                      clear c24
                                      simp only [Option.some.injEq, Prod.mk.injEq] at H
                                      obtain ⟨rfl, rfl, rfl⟩ := H
                                      have p12 : 0 ≤ ((ji9) : Int) := of_decide_eq_true (by first | (with_reducible assumption) | assumption)
                                      have q12 : (ji9) < (a0.size : Int) := of_decide_eq_true (by first | (with_reducible assumption) | assumption)
                                      have hx12 := bt_at a0 (ji9)
                                      replace p12 := eq_true p12
                                      replace q12 := eq_true q12
                                      have p20 : 0 ≤ ((ji17) : Int) := of_decide_eq_true (by first | (with_reducible assumption) | assumption)
                                      have q20 : (ji17) < (a0.size : Int) := of_decide_eq_true (by first | (with_reducible assumption) | assumption)
                                      have hx20 := bt_at a0 (ji17)
                                      replace p20 := eq_true p20
                                      replace q20 := eq_true q20
                                      go_wp2
                                      (try rw [Exit.noGoto_ret])
                                      go_ret3
                                      exact ⟨by first | rfl | (simp; done) | (simp only [← hji9, ← hji13, ← hji15, ← hji17] <;> (first | rfl | simp)) | (simp [*]; done), by repeat (first | exact Drawn0.refl _ | apply Drawn0.step)⟩
                                  · rw [if_neg c23] at H
                                    have c23b0 : ((wrap64 (x8_2 + 1)) == 10) = false := beq_eq_false_iff_ne.mpr c23
                                    have c23b1 : ((wrap64 (x8_2 + 1)) != 10) = true := bne_iff_ne.mpr c23
                                    simp only [Option.some.injEq, Prod.mk.injEq] at H
                                    obtain ⟨rfl, rfl, rfl⟩ := H
                                    have p12 : 0 ≤ ((ji9) : Int) := of_decide_eq_true (by first | (with_reducible assumption) | assumption)
                                    have q12 : (ji9) < (a0.size : Int) := of_decide_eq_true (by first | (with_reducible assumption) | assumption)
                                    have hx12 := bt_at a0 (ji9)
                                    replace p12 := eq_true p12
                                    replace q12 := eq_true q12
                                    have p20 : 0 ≤ ((ji17) : Int) := of_decide_eq_true (by first | (with_reducible assumption) | assumption)
                                    have q20 : (ji17) < (a0.size : Int) := of_decide_eq_true (by first | (with_reducible assumption) | assumption)
                                    have hx20 := bt_at a0 (ji17)
                                    replace p20 := eq_true p20
                                    replace q20 := eq_true q20
                                    go_wp2
                                    (try rw [Exit.noGoto_ret])
                                    go_ret3
                                    exact ⟨by first | rfl | (simp; done) | (simp only [← hji9, ← hji13, ← hji15, ← hji17] <;> (first | rfl | simp)) | (simp [*]; done), by repeat (first | exact Drawn0.refl _ | apply Drawn0.step)⟩
                              · rw [if_neg c21] at H
                                have c21b0 : decide (1 < (wrap64 (x8_2 + 1))) = false := decide_eq_false c21
                                clear c21
                                by_cases c25 : (wrap64 (x8_2 + 1)) = 10
                                · rw [if_pos c25] at H
                                  have c25b0 : ((wrap64 (x8_2 + 1)) == 10) = true := beq_iff_eq.mpr c25
                                  have c25b1 : ((wrap64 (x8_2 + 1)) != 10) = false := bne_eq_false_iff_eq.mpr c25
                                  clear c25
                                  by_cases c26 : (bt a0 (ji17)) > 1
                                  · rw [if_pos c26] at H
                                    have c26b0 : decide (1 < (bt a0 (ji17))) = true := decide_eq_true c26
                                    clear c26
                                    simp only [Option.some.injEq, Prod.mk.injEq] at H
                                    obtain ⟨rfl, rfl, rfl⟩ := H
                                    have p12 : 0 ≤ ((ji9) : Int) := of_decide_eq_true (by first | (with_reducible assumption) | assumption)
                                    have q12 : (ji9) < (a0.size : Int) := of_decide_eq_true (by first | (with_reducible assumption) | assumption)
                                    have hx12 := bt_at a0 (ji9)
                                    replace p12 := eq_true p12
                                    replace q12 := eq_true q12
                                    have p20 : 0 ≤ ((ji17) : Int) := of_decide_eq_true (by first | (with_reducible assumption) | assumption)
                                    have q20 : (ji17) < (a0.size : Int) := of_decide_eq_true (by first | (with_reducible assumption) | assumption)
                                    have hx20 := bt_at a0 (ji17)
                                    replace p20 := eq_true p20
                                    replace q20 := eq_true q20
                                    go_wp2
                                    (try rw [Exit.noGoto_ret])
                                    go_ret3
                                    exact ⟨by first | rfl | (simp; done) | (simp only [← hji9, ← hji13, ← hji15, ← hji17] <;> (first | rfl | simp)) | (simp [*]; done), by repeat (first | exact Drawn0.refl _ | apply Drawn0.step)⟩
                                  · rw [if_neg c26] at H
                                    have c26b0 : decide (1 < (bt a0 (ji17))) = false := decide_eq_false c26
                                    clear c26
                                    simp only [Option.some.injEq, Prod.mk.injEq] at H
                                    obtain ⟨rfl, rfl, rfl⟩ := H
                                    have p12 : 0 ≤ ((ji9) : Int) := of_decide_eq_true (by first | (with_reducible assumption) | assumption)
                                    have q12 : (ji9) < (a0.size : Int) := of_decide_eq_true (by first | (with_reducible assumption) | assumption)
                                    have hx12 := bt_at a0 (ji9)
                                    replace p12 := eq_true p12
                                    replace q12 := eq_true q12
                                    have p20 : 0 ≤ ((ji17) : Int) := of_decide_eq_true (by first | (with_reducible assumption) | assumption)
                                    have q20 : (ji17) < (a0.size : Int) := of_decide_eq_true (by first | (with_reducible assumption) | assumption)
                                    have hx20 := bt_at a0 (ji17)
                                    replace p20 := eq_true p20
                                    replace q20 := eq_true q20
                                    go_wp2
                                    (try rw [Exit.noGoto_ret])
                                    go_ret3
                                    exact ⟨by first | rfl | (simp; done) | (simp only [← hji9, ← hji13, ← hji15, ← hji17] <;> (first | rfl | simp)) | (simp [*]; done), by repeat (first | exact Drawn0.refl _ | apply Drawn0.step)⟩
                                · rw [if_neg c25] at H
                                  have c25b0 : ((wrap64 (x8_2 + 1)) == 10) = false := beq_eq_false_iff_ne.mpr c25
                                  have c25b1 : ((wrap64 (x8_2 + 1)) != 10) = true := bne_iff_ne.mpr c25
                                  simp only [Option.some.injEq, Prod.mk.injEq] at H
                                  obtain ⟨rfl, rfl, rfl⟩ := H
                                  have p12 : 0 ≤ ((ji9) : Int) := of_decide_eq_true (by first | (with_reducible assumption) | assumption)
                                  have q12 : (ji9) < (a0.size : Int) := of_decide_eq_true (by first | (with_reducible assumption) | assumption)
                                  have hx12 := bt_at a0 (ji9)
                                  replace p12 := eq_true p12
                                  replace q12 := eq_true q12
                                  have p20 : 0 ≤ ((ji17) : Int) := of_decide_eq_true (by first | (with_reducible assumption) | assumption)
                                  have q20 : (ji17) < (a0.size : Int) := of_decide_eq_true (by first | (with_reducible assumption) | assumption)
                                  have hx20 := bt_at a0 (ji17)
                                  replace p20 := eq_true p20
                                  replace q20 := eq_true q20
                                  go_wp2
                                  (try rw [Exit.noGoto_ret])
                                  go_ret3
                                  exact ⟨by first | rfl | (simp; done) | (simp only [← hji9, ← hji13, ← hji15, ← hji17] <;> (first | rfl | simp)) | (simp [*]; done), by repeat (first | exact Drawn0.refl _ | apply Drawn0.step)⟩
                            · rw [if_neg c19] at H
                              exact absurd H (by simp)
                          · rw [if_neg c18] at H
                            exact absurd H (by simp)
                        · rw [if_neg c16] at H
                          have c16b0 : decide ((bt a0 (ji9)) < 128) = false := decide_eq_false c16
                          clear c16
                          have H' := Aside0.mk H
                          clear H
                          have p12 : 0 ≤ ((ji9) : Int) := of_decide_eq_true (by first | (with_reducible assumption) | assumption)
                          have q12 : (ji9) < (a0.size : Int) := of_decide_eq_true (by first | (with_reducible assumption) | assumption)
                          have hx12 := bt_at a0 (ji9)
                          replace p12 := eq_true p12
                          replace q12 := eq_true q12
                          go_wp2
                          go_roundg kj5
                          case measure => have := HJ2.out; have := HK2.out; have := HJ5.out; omega
                          case rel => exact ⟨(Go.bits .or .u64 x7_2 (ji15)), (wrap64 (x8_2 + 1)), (by first | rfl | (simp; done) | (simp only [← hji15] <;> (first | rfl | simp)) | (simp [*]; done)), (by first | rfl | (simp; done) | (simp [*]; done)), H', ⟨by have := HJ2.out; have := HK2.out; have := HJ5.out; omega⟩, by repeat (first | exact Drawn0.refl _ | apply Drawn0.step)⟩
                      · rw [if_neg c14] at H
                        exact absurd H (by simp)
                    · rw [if_neg c11] at H
                      exact absurd H (by simp)
                  · rw [if_neg c10] at H
                    exact absurd H (by simp)

end Go.Proofs.YtbanbeaemmlikaaDoor.Px
