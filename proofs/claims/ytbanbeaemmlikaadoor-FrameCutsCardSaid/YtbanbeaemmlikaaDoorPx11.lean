/- Written by px.py, a program of this place (it runs the print of the kit with turns of its own): each Go function as a plain Lean function, and the proof that a call of the Go function comes to it. Conditions: none but what each theorem says. -/
import Derived.Test.YtbanbeaemmlikaaDoorPx0
import Derived.Test.YtbanbeaemmlikaaDoorPx9
import Derived.Test.YtbanbeaemmlikaaDoorPx10
namespace Go.Proofs.YtbanbeaemmlikaaDoor.Px
open Go.RowKit Go.Proofs.YtbanbeaemmlikaaDoorW.PrintWords Go.Proofs.YtbanbeaemmlikaaDoorW.PrintLast Go.Proofs.YtbanbeaemmlikaaDoorW.PrintMore
attribute [local go_sem high] not_u32
attribute [local go_sem] max2_int min2_int max_two min_two max_three min_three max_four min_four   -- for this text's walks alone
set_option linter.unusedVariables false
set_option linter.unusedSimpArgs false

/-! ### heliographref03_Get: function 47 -/
mutual
def heliographref03_Get.l0 : Nat → ByteArray → Int → Int → Option (Int × Int × Int)
  | 0, _, _, _ => none
  | k + 1, x0, x1, x7 => if x7 ≤ 10 then (if x1 > (wrap64 ((x0.size : Int) - x7)) then (some (0, 0, 10)) else (if 0 ≤ (wrap64 ((wrap64 (x1 + x7)) - 1)) then (if (wrap64 ((wrap64 (x1 + x7)) - 1)) < (x0.size : Int) then (if (bt x0 (wrap64 ((wrap64 (x1 + x7)) - 1))) ≥ 128 then (heliographref03_Get.l0 k x0 x1 (wrap64 (x7 + 1))) else (heliographref03_Get.l1 k x0 x1 x7 0 (wrap64 (x7 - 1)))) else (none)) else (none))) else (some (0, 0, 10))
def heliographref03_Get.l1 : Nat → ByteArray → Int → Int → Int → Int → Option (Int × Int × Int)
  | 0, _, _, _, _, _ => none
  | k + 1, x0, x1, x7, x8, x9 => if x9 ≥ 0 then (if 0 ≤ (wrap64 (x1 + x9)) then (if (wrap64 (x1 + x9)) < (x0.size : Int) then (heliographref03_Get.l1 k x0 x1 x7 (IntKind.u64.wrap ((IntKind.u64.wrap (x8 * 128)) + (IntKind.u64.wrap (Int.tmod (bt x0 (wrap64 (x1 + x9))) 128)))) (wrap64 (x9 - 1))) else (none)) else (none)) else ((heliographref03_Put.f k x8).bind fun t256 => (if 0 ≤ x1 then (if x1 ≤ (wrap64 (x1 + x7)) then (if (wrap64 (x1 + x7)) ≤ (x0.size : Int) then (if t256.toList = (x0.extract (x1 : Int).toNat ((wrap64 (x1 + x7)) : Int).toNat).toList then (some (x8, wrap64 (x1 + x7), 0)) else (some (0, 0, 10))) else (none)) else (none)) else (none)))
end
def heliographref03_Get.f (k : Nat) (a0 : ByteArray) (a1 : Int) : Option (Int × Int × Int) := if a1 < 0 then (some (0, 0, 10)) else (heliographref03_Get.l0 k a0 a1 1)
theorem heliographref03_Get.mono_l : ∀ k, (∀ y0 y1 y2, LeO (heliographref03_Get.l0 k y0 y1 y2) (heliographref03_Get.l0 (k + 1) y0 y1 y2)) ∧ (∀ y0 y1 y2 y3 y4, LeO (heliographref03_Get.l1 k y0 y1 y2 y3 y4) (heliographref03_Get.l1 (k + 1) y0 y1 y2 y3 y4))
  | 0 => ⟨fun _ _ _ r h => by simp [heliographref03_Get.l0] at h, fun _ _ _ _ _ r h => by simp [heliographref03_Get.l1] at h⟩
  | k + 1 => by
    obtain ⟨ih0, ih1⟩ := heliographref03_Get.mono_l k
    refine ⟨?_, ?_⟩
    · intro y0 y1 y2
      unfold heliographref03_Get.l0
      repeat' first
      | (with_reducible exact ih0 _ _ _)
      | (with_reducible exact ih1 _ _ _ _ _)
      | (with_reducible exact heliographref03_Put.mono _ _)
      | (with_reducible exact LeO.refl _)
      | (with_reducible exact LeO.none _)
      | (with_reducible refine LeO.ite ?_ ?_)
      | (with_reducible refine LeO.bind ?_ (fun _ => ?_))
      | exact ih0 _ _ _
      | exact ih1 _ _ _ _ _
      | exact heliographref03_Put.mono _ _
      | exact LeO.none _
      | refine LeO.ite ?_ ?_
      | refine LeO.bind ?_ (fun _ => ?_)
    · intro y0 y1 y2 y3 y4
      unfold heliographref03_Get.l1
      repeat' first
      | (with_reducible exact ih0 _ _ _)
      | (with_reducible exact ih1 _ _ _ _ _)
      | (with_reducible exact heliographref03_Put.mono _ _)
      | (with_reducible exact LeO.refl _)
      | (with_reducible exact LeO.none _)
      | (with_reducible refine LeO.ite ?_ ?_)
      | (with_reducible refine LeO.bind ?_ (fun _ => ?_))
      | exact ih0 _ _ _
      | exact ih1 _ _ _ _ _
      | exact heliographref03_Put.mono _ _
      | exact LeO.none _
      | refine LeO.ite ?_ ?_
      | refine LeO.bind ?_ (fun _ => ?_)
theorem heliographref03_Get.mono : ∀ a0 a1 k, LeO (heliographref03_Get.f k a0 a1) (heliographref03_Get.f (k + 1) a0 a1) := by
  intro a0 a1 k
  obtain ⟨ih0, ih1⟩ := heliographref03_Get.mono_l k
  unfold heliographref03_Get.f
  repeat' first
      | (with_reducible exact ih0 _ _ _)
      | (with_reducible exact ih1 _ _ _ _ _)
      | (with_reducible exact heliographref03_Put.mono _ _)
      | (with_reducible exact LeO.refl _)
      | (with_reducible exact LeO.none _)
      | (with_reducible refine LeO.ite ?_ ?_)
      | (with_reducible refine LeO.bind ?_ (fun _ => ?_))
      | exact ih0 _ _ _
      | exact ih1 _ _ _ _ _
      | exact heliographref03_Put.mono _ _
      | exact LeO.none _
      | refine LeO.ite ?_ ?_
      | refine LeO.bind ?_ (fun _ => ?_)
def heliographref03_Get.T14 : Bool × List (List Nat × List Nat) := (true, [([], []), ([0], [0]), ([], []), ([], []), ([], []), ([], []), ([4, 5], [4, 5]), ([2, 3, 6], [2, 3, 6]), ([1, 7], [1, 7])])
def heliographref03_Get.B14 : List Nat := [0, 1, 0, 0, 0, 0, 48, 124, 255]
theorem heliographref03_Get.tab14 : rtab .any (opsOf Tryd.f47 14) = heliographref03_Get.T14 := by kernel_rfl
theorem heliographref03_Get.bits14 : waitsOk heliographref03_Get.T14.2 heliographref03_Get.B14 = true := by kernel_rfl
set_option maxHeartbeats 8000000 in
set_option maxRecDepth 100000 in
theorem heliographref03_Get.calls (k : Nat) (a0 : ByteArray) (a1 : Int) (r1 : Int) (r2 : Int) (r3 : Int) (w : World) (h : heliographref03_Get.f k a0 a1 = some (r1, r2, r3)) :
    Calls Tryd.prog 47 #[.string a0, .int .i64 a1] w fun e w' => e = .returned (.tuple #[.int .u64 r1, .int .i64 r2, .int .i64 r3]) ∧ Below w.heap.size w w' := by
  have HB := Aside0.mk (Below.refl w.heap.size w)
  have H : (if a1 < 0 then (some (0, 0, 10)) else (heliographref03_Get.l0 k a0 a1 1)) = some (r1, r2, r3) := h
  clear h
  by_cases c3 : a1 < 0
  · rw [if_pos c3] at H
    have c3b0 : decide (a1 < 0) = true := decide_eq_true c3
    clear c3
    simp only [Option.some.injEq, Prod.mk.injEq] at H
    obtain ⟨rfl, rfl, rfl⟩ := H
    go_enter Tryd.func47, Tryd.ntmps47
    go_wp2
    go_ret3
    exact ⟨by first | rfl | (simp [errW_none, errW_some] <;> rfl) | (simp [*, errW_none, errW_some] <;> rfl), by repeat (first | (with_reducible first | exact HB.out | apply below_alloc | apply pw_below_drewN | apply below_drew1) | exact HB.out)⟩
  · rw [if_neg c3] at H
    have c3b0 : decide (a1 < 0) = false := decide_eq_false c3
    clear c3
    have H' := Aside0.mk H
    clear H
    go_enter Tryd.func47, Tryd.ntmps47
    go_wp2
    go_loopg [7] k (fun kq v7 w' => ∃ (x7_1 : Int), v7 = .int .i64 x7_1 ∧ Aside0 (heliographref03_Get.l0 kq a0 a1 x7_1 = some (r1, r2, r3)) ∧ Aside0 (kq ≤ k) ∧ Aside0 (Below w.heap.size w w'))
    case atStart => exact ⟨(1), (by first | rfl | (simp; done) | (simp [*]; done)), H', ⟨Nat.le_refl _⟩, ⟨by repeat (first | (with_reducible first | exact HB.out | apply below_alloc | apply pw_below_drewN | apply below_drew1) | exact HB.out)⟩⟩
    case round =>
      clear H'
      try clear p2
      try clear c3
      try clear c3b0
      obtain ⟨x7_1, rfl, HA, HK1, HB⟩ := hrel
      cases gk with
      | zero => exact absurd HA.out (by simp [heliographref03_Get.l0])
      | succ k1 =>
        have H := HA.out
        clear HA
        simp only [heliographref03_Get.l0] at H
        by_cases c4 : x7_1 ≤ 10
        · rw [if_pos c4] at H
          have c4b0 : decide (x7_1 ≤ 10) = true := decide_eq_true c4
          clear c4
          by_cases c5 : a1 > (wrap64 ((a0.size : Int) - x7_1))
          · rw [if_pos c5] at H
            have c5b0 : decide ((wrap64 ((a0.size : Int) - x7_1)) < a1) = true := decide_eq_true c5
            clear c5
            simp only [Option.some.injEq, Prod.mk.injEq] at H
            obtain ⟨rfl, rfl, rfl⟩ := H
            go_wp2
            go_ret3
            exact ⟨by first | rfl | (simp [errW_none, errW_some] <;> rfl) | (simp [*, errW_none, errW_some] <;> rfl), by repeat (first | (with_reducible first | exact HB.out | apply below_alloc | apply pw_below_drewN | apply below_drew1) | exact HB.out)⟩
          · rw [if_neg c5] at H
            have c5b0 : decide ((wrap64 ((a0.size : Int) - x7_1)) < a1) = false := decide_eq_false c5
            clear c5
            obtain ⟨ji6, hji6⟩ : ∃ j_ : Int, (wrap64 ((wrap64 (a1 + x7_1)) - 1)) = j_ := ⟨_, rfl⟩
            replace H : (if 0 ≤ (ji6) then (if (ji6) < (a0.size : Int) then (if (bt a0 (ji6)) ≥ 128 then (heliographref03_Get.l0 k1 a0 a1 (wrap64 (x7_1 + 1))) else (heliographref03_Get.l1 k1 a0 a1 x7_1 0 (wrap64 (x7_1 - 1)))) else (none)) else (none)) = some (r1, r2, r3) := by first | (rw [hji6] at H; exact H) | (simp only [hji6] at H ⊢; exact H)
            have hji6w : (IntKind.i64.wrap ((wrap64 (a1 + x7_1)) - 1)) = ji6 := (i64_w _).trans hji6
            by_cases c7 : 0 ≤ (ji6)
            · rw [if_pos c7] at H
              have c7b0 : decide (0 ≤ (ji6)) = true := decide_eq_true c7
              clear c7
              by_cases c8 : (ji6) < (a0.size : Int)
              · rw [if_pos c8] at H
                have c8b0 : decide ((ji6) < (a0.size : Int)) = true := decide_eq_true c8
                clear c8
                by_cases c10 : (bt a0 (ji6)) ≥ 128
                · rw [if_pos c10] at H
                  have c10b0 : decide (128 ≤ (bt a0 (ji6))) = true := decide_eq_true c10
                  clear c10
                  have H' := Aside0.mk H
                  clear H
                  have p9 : 0 ≤ ((ji6) : Int) := of_decide_eq_true (by first | (with_reducible assumption) | assumption)
                  have q9 : (ji6) < (a0.size : Int) := of_decide_eq_true (by first | (with_reducible assumption) | assumption)
                  have hx9 := bt_at a0 (ji6)
                  replace p9 := eq_true p9
                  replace q9 := eq_true q9
                  go_wp2
                  go_roundg k1
                  case measure => have := HK1.out; omega
                  case rel => exact ⟨(wrap64 (x7_1 + 1)), (by first | rfl | (simp; done) | (simp [*]; done)), H', ⟨by have := HK1.out; omega⟩, ⟨by repeat (first | (with_reducible first | exact HB.out | apply below_alloc | apply pw_below_drewN | apply below_drew1) | exact HB.out)⟩⟩
                · rw [if_neg c10] at H
                  have c10b0 : decide (128 ≤ (bt a0 (ji6))) = false := decide_eq_false c10
                  clear c10
                  have H' := Aside0.mk H
                  clear H
                  have p9 : 0 ≤ ((ji6) : Int) := of_decide_eq_true (by first | (with_reducible assumption) | assumption)
                  have q9 : (ji6) < (a0.size : Int) := of_decide_eq_true (by first | (with_reducible assumption) | assumption)
                  have hx9 := bt_at a0 (ji6)
                  replace p9 := eq_true p9
                  replace q9 := eq_true q9
                  go_wp2
                  go_loopg [8, 9] k1 (fun kq v8 v9 w' => ∃ (x8_2 : Int) (x9_2 : Int), v8 = .int .u64 x8_2 ∧ v9 = .int .i64 x9_2 ∧ Aside0 (heliographref03_Get.l1 kq a0 a1 x7_1 x8_2 x9_2 = some (r1, r2, r3)) ∧ Aside0 (kq ≤ k1) ∧ Aside0 (Below w.heap.size w w'))
                  case atStart => exact ⟨(0), (wrap64 (x7_1 - 1)), (by first | rfl | (simp; done) | (simp [*]; done)), (by first | rfl | (simp; done) | (simp [*]; done)), H', ⟨Nat.le_refl _⟩, ⟨by repeat (first | (with_reducible first | exact HB.out | apply below_alloc | apply pw_below_drewN | apply below_drew1) | exact HB.out)⟩⟩
                  case round =>
                    clear H'
                    try clear c1
                    try clear p2
                    try clear c3
                    try clear c3b0
                    try clear c4
                    try clear c4b0
                    try clear c5
                    try clear c5b0
                    try clear p6
                    try clear c7
                    try clear c7b0
                    try clear c8
                    try clear c8b0
                    try clear p9
                    try clear q9
                    try clear hx9
                    try clear c10
                    try clear c10b0
                    try clear p2
                    try clear p9
                    try clear q9
                    obtain ⟨x8_2, x9_2, rfl, rfl, HA, HK2, HB⟩ := hrel
                    cases gk with
                    | zero => exact absurd HA.out (by simp [heliographref03_Get.l1])
                    | succ k2 =>
                      have H := HA.out
                      clear HA
                      simp only [heliographref03_Get.l1] at H
                      by_cases c11 : x9_2 ≥ 0
                      · rw [if_pos c11] at H
                        have c11b0 : decide (0 ≤ x9_2) = true := decide_eq_true c11
                        clear c11
                        obtain ⟨ji12, hji12⟩ : ∃ j_ : Int, (wrap64 (a1 + x9_2)) = j_ := ⟨_, rfl⟩
                        replace H : (if 0 ≤ (ji12) then (if (ji12) < (a0.size : Int) then (heliographref03_Get.l1 k2 a0 a1 x7_1 (IntKind.u64.wrap ((IntKind.u64.wrap (x8_2 * 128)) + (IntKind.u64.wrap (Int.tmod (bt a0 (ji12)) 128)))) (wrap64 (x9_2 - 1))) else (none)) else (none)) = some (r1, r2, r3) := by first | (rw [hji12] at H; exact H) | (simp only [hji12] at H ⊢; exact H)
                        have hji12w : (IntKind.i64.wrap (a1 + x9_2)) = ji12 := (i64_w _).trans hji12
                        by_cases c13 : 0 ≤ (ji12)
                        · rw [if_pos c13] at H
                          have c13b0 : decide (0 ≤ (ji12)) = true := decide_eq_true c13
                          clear c13
                          by_cases c14 : (ji12) < (a0.size : Int)
                          · rw [if_pos c14] at H
                            have c14b0 : decide ((ji12) < (a0.size : Int)) = true := decide_eq_true c14
                            clear c14
                            have H' := Aside0.mk H
                            clear H
                            have p15 : 0 ≤ ((ji12) : Int) := of_decide_eq_true (by first | (with_reducible assumption) | assumption)
                            have q15 : (ji12) < (a0.size : Int) := of_decide_eq_true (by first | (with_reducible assumption) | assumption)
                            have hx15 := bt_at a0 (ji12)
                            replace p15 := eq_true p15
                            replace q15 := eq_true q15
                            go_wp2
                            go_roundg k2
                            case measure => have := HK1.out; have := HK2.out; omega
                            case rel => exact ⟨(IntKind.u64.wrap ((IntKind.u64.wrap (x8_2 * 128)) + (IntKind.u64.wrap (Int.tmod (bt a0 (ji12)) 128)))), (wrap64 (x9_2 - 1)), (by first | rfl | (simp; done) | (simp only [← hji12] <;> (first | rfl | simp)) | (simp [*]; done)), (by first | rfl | (simp; done) | (simp [*]; done)), H', ⟨by have := HK1.out; have := HK2.out; omega⟩, ⟨by repeat (first | (with_reducible first | exact HB.out | apply below_alloc | apply pw_below_drewN | apply below_drew1) | exact HB.out)⟩⟩
                          · rw [if_neg c14] at H
                            exact absurd H (by simp)
                        · rw [if_neg c13] at H
                          exact absurd H (by simp)
                      · rw [if_neg c11] at H
                        have c11b0 : decide (0 ≤ x9_2) = false := decide_eq_false c11
                        clear c11
                        replace H := Option.bind_eq_some_iff.mp H
                        obtain ⟨t256, A160, H⟩ := H
                        replace H : (if 0 ≤ a1 then (if a1 ≤ (wrap64 (a1 + x7_1)) then (if (wrap64 (a1 + x7_1)) ≤ (a0.size : Int) then (if t256.toList = (a0.extract (a1 : Int).toNat ((wrap64 (a1 + x7_1)) : Int).toNat).toList then (some (x8_2, wrap64 (a1 + x7_1), 0)) else (some (0, 0, 10))) else (none)) else (none)) else (none)) = some (r1, r2, r3) := H
                        have A16 := Aside0.mk A160
                        clear A160
                        by_cases c17 : 0 ≤ a1
                        · rw [if_pos c17] at H
                          have c17b0 := eq_true c17
                          have c17b1 : decide (0 ≤ a1) = true := decide_eq_true c17
                          clear c17
                          by_cases c18 : a1 ≤ (wrap64 (a1 + x7_1))
                          · rw [if_pos c18] at H
                            have c18b0 := eq_true c18
                            have c18b1 : decide (a1 ≤ (wrap64 (a1 + x7_1))) = true := decide_eq_true c18
                            by_cases c19 : (wrap64 (a1 + x7_1)) ≤ (a0.size : Int)
                            · rw [if_pos c19] at H
                              have c19b0 := eq_true c19
                              have c19b1 : decide ((wrap64 (a1 + x7_1)) ≤ (a0.size : Int)) = true := decide_eq_true c19
                              by_cases c20 : t256.toList = (a0.extract (a1 : Int).toNat ((wrap64 (a1 + x7_1)) : Int).toNat).toList
                              · rw [if_pos c20] at H
                                have c20b0 : (t256.toList == (a0.extract (a1 : Int).toNat ((wrap64 (a1 + x7_1)) : Int).toNat).toList) = true := beq_iff_eq.mpr c20
                                have c20b1 : (t256.toList != (a0.extract (a1 : Int).toNat ((wrap64 (a1 + x7_1)) : Int).toNat).toList) = false := bne_eq_false_iff_eq.mpr c20
                                clear c20
                                simp only [Option.some.injEq, Prod.mk.injEq] at H
                                obtain ⟨rfl, rfl, rfl⟩ := H
                                try go_wp2
                                have n0_ := Aside0.mk (below_drew1 HB.out)
                                clear HB
                                have HB := n0_
                                clear n0_
                                refine start_ (n := 9) (S := fun w' => True) (ds := []) #[false, false, false, false, false, false, false, false, false] (by kernel_rfl) rfl rfl trivial (fun hHeld => ?_); refine with_tabW heliographref03_Get.tab14 heliographref03_Get.bits14 (fun HT_ HW_ => ?_)
                                generalize wr.drew = w21 at HB hHeld ⊢
                                refine pure_ (i := 0) (N := some 45) (v := ?_) (a' := ?_) #[true, false, false, false, false, false, false, false, false] rfl rfl (any_of HT_.out (by kernel_rfl)) (fun _ _ _ h => h) (Or.inl ⟨by rfl, ?_⟩) ?_ ?_
                                rotate_left
                                · intro w'
                                  go_simp
                                  with_reducible rfl
                                rotate_left
                                · simp only [Act.put, List.setIfInBounds_toArray, List.set_cons_zero, List.set_cons_succ, i64_w, i32_w]
                                  rfl
                                refine pure_ (i := 2) (N := some 47) (v := ?_) (a' := ?_) #[true, false, true, false, false, false, false, false, false] rfl rfl (any_of HT_.out (by kernel_rfl)) (fun _ _ _ h => h) (Or.inl ⟨by rfl, ?_⟩) ?_ ?_
                                rotate_left
                                · intro w'
                                  go_simp
                                  with_reducible rfl
                                rotate_left
                                · simp only [Act.put, List.setIfInBounds_toArray, List.set_cons_zero, List.set_cons_succ, i64_w, i32_w]
                                  rfl
                                refine pure_ (i := 3) (N := some 48) (v := ?_) (a' := ?_) #[true, false, true, true, false, false, false, false, false] rfl rfl (any_of HT_.out (by kernel_rfl)) (fun _ _ _ h => h) (Or.inl ⟨by rfl, ?_⟩) ?_ ?_
                                rotate_left
                                · intro w'
                                  go_simp
                                  with_reducible rfl
                                rotate_left
                                · simp only [Act.put, List.setIfInBounds_toArray, List.set_cons_zero, List.set_cons_succ, i64_w, i32_w]
                                  rfl
                                refine pure_ (i := 4) (N := some 49) (v := ?_) (a' := ?_) #[true, false, true, true, true, false, false, false, false] rfl rfl (any_of HT_.out (by kernel_rfl)) (fun _ _ _ h => h) (Or.inl ⟨by rfl, ?_⟩) ?_ ?_
                                rotate_left
                                · intro w'
                                  go_simp
                                  with_reducible rfl
                                rotate_left
                                · simp only [Act.put, List.setIfInBounds_toArray, List.set_cons_zero, List.set_cons_succ, i64_w, i32_w]
                                  rfl
                                refine pure_ (i := 5) (N := some 50) (v := ?_) (a' := ?_) #[true, false, true, true, true, true, false, false, false] rfl rfl (any_of HT_.out (by kernel_rfl)) (fun _ _ _ h => h) (Or.inl ⟨by rfl, ?_⟩) ?_ ?_
                                rotate_left
                                · intro w'
                                  go_simp
                                  with_reducible rfl
                                rotate_left
                                · simp only [Act.put, List.setIfInBounds_toArray, List.set_cons_zero, List.set_cons_succ, i64_w, i32_w]
                                  rfl
                                refine pure_ (i := 6) (N := some 51) (v := ?_) (a' := ?_) #[true, false, true, true, true, true, true, false, false] rfl rfl (any_of HT_.out (by kernel_rfl)) (fun _ _ _ h => h) (Or.inl ⟨by rfl, ?_⟩) ?_ ?_
                                rotate_left
                                · intro w'
                                  go_simp
                                  with_reducible rfl
                                rotate_left
                                · simp only [Act.put, List.setIfInBounds_toArray, List.set_cons_zero, List.set_cons_succ, i64_w, i32_w]
                                  rfl
                                refine pure_ (i := 7) (N := some 52) (v := ?_) (a' := ?_) #[true, false, true, true, true, true, true, true, false] rfl rfl (any_of HT_.out (by kernel_rfl)) (fun _ _ _ h => h) (Or.inl ⟨by rfl, ?_⟩) ?_ ?_
                                rotate_left
                                · intro w'
                                  go_simp
                                  with_reducible rfl
                                rotate_left
                                · simp only [Act.put, List.setIfInBounds_toArray, List.set_cons_zero, List.set_cons_succ, i64_w, i32_w]
                                  rfl
                                refine one_ (i := 1) (N := some 46) #[true, true, true, true, true, true, true, true, false] rfl rfl (one_of HT_.out (by kernel_rfl)) (by decide) (fun K hK => ?_)
                                refine goes_ Tryd.func49 (by kernel_rfl) rfl #[.int .u64 x8_2] (by rfl) rfl rfl (by (try simp only [List.map_toArray, List.map_cons, List.map_nil]); first | done | rfl | (simp only [List.length_drop, List.length_take]; rfl)) ?_
                                with_reducible refine (heliographref03_Put.calls k2 x8_2 t256 _ A16.out).mono ?_
                                rintro e w22 ⟨rfl, hb⟩
                                refine ⟨_, rfl, ?_⟩
                                have n0_ := Aside0.mk (below_step (by repeat (first | (with_reducible first | exact HB.out | apply below_alloc | apply pw_below_drewN | apply below_drew1) | exact HB.out)) hb)
                                clear HB
                                have HB := n0_
                                clear n0_
                                (try clear hb)
                                (try clear hb2)
                                (try clear hk)
                                (try clear hi)
                                refine hK.out _ _ trivial (fun hHeld => ?_)
                                clear hK K
                                refine norm_ (a' := ?_) ?_ ?_
                                rotate_left
                                · show Act.put _ (some 46) _ = _
                                  simp only [Act.put, List.setIfInBounds_toArray, List.set_cons_zero, List.set_cons_succ, i64_w, i32_w]
                                  rfl
                                refine pure_ (i := 8) (N := some 53) (v := ?_) (a' := ?_) #[true, true, true, true, true, true, true, true, true] rfl rfl (any_of HT_.out (by kernel_rfl)) (fun _ _ _ h => h) (Or.inl ⟨by rfl, ?_⟩) ?_ ?_
                                rotate_left
                                · intro w'
                                  go_simp
                                  with_reducible rfl
                                rotate_left
                                · simp only [Act.put, List.setIfInBounds_toArray, List.set_cons_zero, List.set_cons_succ, i64_w, i32_w]
                                  rfl
                                refine done_ (done_of HT_.out (by kernel_rfl)) ?_
                                try go_wp2
                                go_ret3
                                exact ⟨by first | rfl | (simp [errW_none, errW_some] <;> rfl) | (simp only [← hji6]; first | rfl | (simp [errW_none, errW_some] <;> rfl)) | (simp [*, errW_none, errW_some] <;> rfl), by repeat (first | (with_reducible first | exact HB.out | apply below_alloc | apply pw_below_drewN | apply below_drew1) | exact HB.out)⟩
                              · rw [if_neg c20] at H
                                have c20b0 : (t256.toList == (a0.extract (a1 : Int).toNat ((wrap64 (a1 + x7_1)) : Int).toNat).toList) = false := beq_eq_false_iff_ne.mpr c20
                                have c20b1 : (t256.toList != (a0.extract (a1 : Int).toNat ((wrap64 (a1 + x7_1)) : Int).toNat).toList) = true := bne_iff_ne.mpr c20
                                simp only [Option.some.injEq, Prod.mk.injEq] at H
                                obtain ⟨rfl, rfl, rfl⟩ := H
                                try go_wp2
                                have n0_ := Aside0.mk (below_drew1 HB.out)
                                clear HB
                                have HB := n0_
                                clear n0_
                                refine start_ (n := 9) (S := fun w' => True) (ds := []) #[false, false, false, false, false, false, false, false, false] (by kernel_rfl) rfl rfl trivial (fun hHeld => ?_); refine with_tabW heliographref03_Get.tab14 heliographref03_Get.bits14 (fun HT_ HW_ => ?_)
                                generalize wr.drew = w23 at HB hHeld ⊢
                                refine pure_ (i := 0) (N := some 45) (v := ?_) (a' := ?_) #[true, false, false, false, false, false, false, false, false] rfl rfl (any_of HT_.out (by kernel_rfl)) (fun _ _ _ h => h) (Or.inl ⟨by rfl, ?_⟩) ?_ ?_
                                rotate_left
                                · intro w'
                                  go_simp
                                  with_reducible rfl
                                rotate_left
                                · simp only [Act.put, List.setIfInBounds_toArray, List.set_cons_zero, List.set_cons_succ, i64_w, i32_w]
                                  rfl
                                refine pure_ (i := 2) (N := some 47) (v := ?_) (a' := ?_) #[true, false, true, false, false, false, false, false, false] rfl rfl (any_of HT_.out (by kernel_rfl)) (fun _ _ _ h => h) (Or.inl ⟨by rfl, ?_⟩) ?_ ?_
                                rotate_left
                                · intro w'
                                  go_simp
                                  with_reducible rfl
                                rotate_left
                                · simp only [Act.put, List.setIfInBounds_toArray, List.set_cons_zero, List.set_cons_succ, i64_w, i32_w]
                                  rfl
                                refine pure_ (i := 3) (N := some 48) (v := ?_) (a' := ?_) #[true, false, true, true, false, false, false, false, false] rfl rfl (any_of HT_.out (by kernel_rfl)) (fun _ _ _ h => h) (Or.inl ⟨by rfl, ?_⟩) ?_ ?_
                                rotate_left
                                · intro w'
                                  go_simp
                                  with_reducible rfl
                                rotate_left
                                · simp only [Act.put, List.setIfInBounds_toArray, List.set_cons_zero, List.set_cons_succ, i64_w, i32_w]
                                  rfl
                                refine pure_ (i := 4) (N := some 49) (v := ?_) (a' := ?_) #[true, false, true, true, true, false, false, false, false] rfl rfl (any_of HT_.out (by kernel_rfl)) (fun _ _ _ h => h) (Or.inl ⟨by rfl, ?_⟩) ?_ ?_
                                rotate_left
                                · intro w'
                                  go_simp
                                  with_reducible rfl
                                rotate_left
                                · simp only [Act.put, List.setIfInBounds_toArray, List.set_cons_zero, List.set_cons_succ, i64_w, i32_w]
                                  rfl
                                refine pure_ (i := 5) (N := some 50) (v := ?_) (a' := ?_) #[true, false, true, true, true, true, false, false, false] rfl rfl (any_of HT_.out (by kernel_rfl)) (fun _ _ _ h => h) (Or.inl ⟨by rfl, ?_⟩) ?_ ?_
                                rotate_left
                                · intro w'
                                  go_simp
                                  with_reducible rfl
                                rotate_left
                                · simp only [Act.put, List.setIfInBounds_toArray, List.set_cons_zero, List.set_cons_succ, i64_w, i32_w]
                                  rfl
                                refine pure_ (i := 6) (N := some 51) (v := ?_) (a' := ?_) #[true, false, true, true, true, true, true, false, false] rfl rfl (any_of HT_.out (by kernel_rfl)) (fun _ _ _ h => h) (Or.inl ⟨by rfl, ?_⟩) ?_ ?_
                                rotate_left
                                · intro w'
                                  go_simp
                                  with_reducible rfl
                                rotate_left
                                · simp only [Act.put, List.setIfInBounds_toArray, List.set_cons_zero, List.set_cons_succ, i64_w, i32_w]
                                  rfl
                                refine pure_ (i := 7) (N := some 52) (v := ?_) (a' := ?_) #[true, false, true, true, true, true, true, true, false] rfl rfl (any_of HT_.out (by kernel_rfl)) (fun _ _ _ h => h) (Or.inl ⟨by rfl, ?_⟩) ?_ ?_
                                rotate_left
                                · intro w'
                                  go_simp
                                  with_reducible rfl
                                rotate_left
                                · simp only [Act.put, List.setIfInBounds_toArray, List.set_cons_zero, List.set_cons_succ, i64_w, i32_w]
                                  rfl
                                refine one_ (i := 1) (N := some 46) #[true, true, true, true, true, true, true, true, false] rfl rfl (one_of HT_.out (by kernel_rfl)) (by decide) (fun K hK => ?_)
                                refine goes_ Tryd.func49 (by kernel_rfl) rfl #[.int .u64 x8_2] (by rfl) rfl rfl (by (try simp only [List.map_toArray, List.map_cons, List.map_nil]); first | done | rfl | (simp only [List.length_drop, List.length_take]; rfl)) ?_
                                with_reducible refine (heliographref03_Put.calls k2 x8_2 t256 _ A16.out).mono ?_
                                rintro e w24 ⟨rfl, hb⟩
                                refine ⟨_, rfl, ?_⟩
                                have n0_ := Aside0.mk (below_step (by repeat (first | (with_reducible first | exact HB.out | apply below_alloc | apply pw_below_drewN | apply below_drew1) | exact HB.out)) hb)
                                clear HB
                                have HB := n0_
                                clear n0_
                                (try clear hb)
                                (try clear hb2)
                                (try clear hk)
                                (try clear hi)
                                refine hK.out _ _ trivial (fun hHeld => ?_)
                                clear hK K
                                refine norm_ (a' := ?_) ?_ ?_
                                rotate_left
                                · show Act.put _ (some 46) _ = _
                                  simp only [Act.put, List.setIfInBounds_toArray, List.set_cons_zero, List.set_cons_succ, i64_w, i32_w]
                                  rfl
                                refine pure_ (i := 8) (N := some 53) (v := ?_) (a' := ?_) #[true, true, true, true, true, true, true, true, true] rfl rfl (any_of HT_.out (by kernel_rfl)) (fun _ _ _ h => h) (Or.inl ⟨by rfl, ?_⟩) ?_ ?_
                                rotate_left
                                · intro w'
                                  go_simp
                                  with_reducible rfl
                                rotate_left
                                · simp only [Act.put, List.setIfInBounds_toArray, List.set_cons_zero, List.set_cons_succ, i64_w, i32_w]
                                  rfl
                                refine done_ (done_of HT_.out (by kernel_rfl)) ?_
                                try go_wp2
                                go_ret3
                                exact ⟨by first | rfl | (simp [errW_none, errW_some] <;> rfl) | (simp only [← hji6]; first | rfl | (simp [errW_none, errW_some] <;> rfl)) | (simp [*, errW_none, errW_some] <;> rfl), by repeat (first | (with_reducible first | exact HB.out | apply below_alloc | apply pw_below_drewN | apply below_drew1) | exact HB.out)⟩
                            · rw [if_neg c19] at H
                              exact absurd H (by simp)
                          · rw [if_neg c18] at H
                            exact absurd H (by simp)
                        · rw [if_neg c17] at H
                          exact absurd H (by simp)
              · rw [if_neg c8] at H
                exact absurd H (by simp)
            · rw [if_neg c7] at H
              exact absurd H (by simp)
        · rw [if_neg c4] at H
          have c4b0 : decide (x7_1 ≤ 10) = false := decide_eq_false c4
          clear c4
          simp only [Option.some.injEq, Prod.mk.injEq] at H
          obtain ⟨rfl, rfl, rfl⟩ := H
          go_wp2
          go_ret3
          exact ⟨by first | rfl | (simp [errW_none, errW_some] <;> rfl) | (simp [*, errW_none, errW_some] <;> rfl), by repeat (first | (with_reducible first | exact HB.out | apply below_alloc | apply pw_below_drewN | apply below_drew1) | exact HB.out)⟩

/-! ### heliographref05_Get: function 29 -/
mutual
def heliographref05_Get.j0 : Nat → ByteArray → Int → Bool → Option (ByteArray × Int × Int)
  | 0, _, _, _ => none
  | k + 1, x0, x1, x21 => if x21 = true then (some ((⟨#[]⟩ : ByteArray), 0, 1)) else (if x1 = (x0.size : Int) then (some ((⟨#[]⟩ : ByteArray), x1, 1)) else (if 0 ≤ x1 then (if x1 ≤ (x0.size : Int) then ((heliographref05_early.f k (x0.extract (x1 : Int).toNat x0.size)).bind fun t257 => (if t257 = true then (some ((⟨#[]⟩ : ByteArray), x1, 2)) else ((heliographref03_Get.f k x0 x1).bind fun bt258 => (if bt258.2.2 = 0 then (heliographref05_Get.j1 k x0 x1 bt258.1 bt258.2.1 (decide (bt258.1 > 70000))) else (heliographref05_Get.j1 k x0 x1 bt258.1 bt258.2.1 true))))) else (none)) else (none)))
def heliographref05_Get.j1 : Nat → ByteArray → Int → Int → Int → Bool → Option (ByteArray × Int × Int)
  | 0, _, _, _, _, _ => none
  | k + 1, x0, x1, x8, x9, x45 => if x45 = true then (some ((⟨#[]⟩ : ByteArray), x1, 3)) else (if (wrap64 ((x0.size : Int) - x9)) < (wrap64 ((wrap64 (x8)) + 4)) then (some ((⟨#[]⟩ : ByteArray), x1, 2)) else (if 0 ≤ x9 then (if x9 ≤ (wrap64 (x9 + (wrap64 (x8)))) then (if (wrap64 (x9 + (wrap64 (x8)))) ≤ (x0.size : Int) then ((heliographref05_Put.f k (x0.extract (x9 : Int).toNat ((wrap64 (x9 + (wrap64 (x8)))) : Int).toNat)).bind fun bt261 => (if 0 ≤ x1 then (if x1 ≤ (wrap64 ((wrap64 (x9 + (wrap64 (x8)))) + 4)) then (if (wrap64 ((wrap64 (x9 + (wrap64 (x8)))) + 4)) ≤ (x0.size : Int) then (if (x0.extract (x1 : Int).toNat ((wrap64 ((wrap64 (x9 + (wrap64 (x8)))) + 4)) : Int).toNat).toList = bt261.1.toList then (some (x0.extract (x9 : Int).toNat ((wrap64 (x9 + (wrap64 (x8)))) : Int).toNat, wrap64 ((wrap64 (x9 + (wrap64 (x8)))) + 4), 0)) else (some ((⟨#[]⟩ : ByteArray), x1, 3))) else (none)) else (none)) else (none))) else (none)) else (none)) else (none)))
end
def heliographref05_Get.f (k : Nat) (a0 : ByteArray) (a1 : Int) : Option (ByteArray × Int × Int) := if a1 < 0 then (heliographref05_Get.j0 k a0 a1 true) else (heliographref05_Get.j0 k a0 a1 (decide (a1 > (a0.size : Int))))
theorem heliographref05_Get.mono_l : ∀ k, (∀ y0 y1 y2, LeO (heliographref05_Get.j0 k y0 y1 y2) (heliographref05_Get.j0 (k + 1) y0 y1 y2)) ∧ (∀ y0 y1 y2 y3 y4, LeO (heliographref05_Get.j1 k y0 y1 y2 y3 y4) (heliographref05_Get.j1 (k + 1) y0 y1 y2 y3 y4))
  | 0 => ⟨fun _ _ _ r h => by simp [heliographref05_Get.j0] at h, fun _ _ _ _ _ r h => by simp [heliographref05_Get.j1] at h⟩
  | k + 1 => by
    obtain ⟨ih0, ih1⟩ := heliographref05_Get.mono_l k
    refine ⟨?_, ?_⟩
    · intro y0 y1 y2
      unfold heliographref05_Get.j0
      repeat' first
      | (with_reducible exact ih0 _ _ _)
      | (with_reducible exact ih1 _ _ _ _ _)
      | (with_reducible exact heliographref03_Get.mono _ _ _)
      | (with_reducible exact heliographref05_Put.mono _ _)
      | (with_reducible exact heliographref05_early.mono _ _)
      | (with_reducible exact LeO.refl _)
      | (with_reducible exact LeO.none _)
      | (with_reducible refine LeO.ite ?_ ?_)
      | (with_reducible refine LeO.bind ?_ (fun _ => ?_))
      | exact ih0 _ _ _
      | exact ih1 _ _ _ _ _
      | exact heliographref03_Get.mono _ _ _
      | exact heliographref05_Put.mono _ _
      | exact heliographref05_early.mono _ _
      | exact LeO.none _
      | refine LeO.ite ?_ ?_
      | refine LeO.bind ?_ (fun _ => ?_)
    · intro y0 y1 y2 y3 y4
      unfold heliographref05_Get.j1
      repeat' first
      | (with_reducible exact ih0 _ _ _)
      | (with_reducible exact ih1 _ _ _ _ _)
      | (with_reducible exact heliographref03_Get.mono _ _ _)
      | (with_reducible exact heliographref05_Put.mono _ _)
      | (with_reducible exact heliographref05_early.mono _ _)
      | (with_reducible exact LeO.refl _)
      | (with_reducible exact LeO.none _)
      | (with_reducible refine LeO.ite ?_ ?_)
      | (with_reducible refine LeO.bind ?_ (fun _ => ?_))
      | exact ih0 _ _ _
      | exact ih1 _ _ _ _ _
      | exact heliographref03_Get.mono _ _ _
      | exact heliographref05_Put.mono _ _
      | exact heliographref05_early.mono _ _
      | exact LeO.none _
      | refine LeO.ite ?_ ?_
      | refine LeO.bind ?_ (fun _ => ?_)
theorem heliographref05_Get.mono : ∀ a0 a1 k, LeO (heliographref05_Get.f k a0 a1) (heliographref05_Get.f (k + 1) a0 a1) := by
  intro a0 a1 k
  obtain ⟨ih0, ih1⟩ := heliographref05_Get.mono_l k
  unfold heliographref05_Get.f
  repeat' first
      | (with_reducible exact ih0 _ _ _)
      | (with_reducible exact ih1 _ _ _ _ _)
      | (with_reducible exact heliographref03_Get.mono _ _ _)
      | (with_reducible exact heliographref05_Put.mono _ _)
      | (with_reducible exact heliographref05_early.mono _ _)
      | (with_reducible exact LeO.refl _)
      | (with_reducible exact LeO.none _)
      | (with_reducible refine LeO.ite ?_ ?_)
      | (with_reducible refine LeO.bind ?_ (fun _ => ?_))
      | exact ih0 _ _ _
      | exact ih1 _ _ _ _ _
      | exact heliographref03_Get.mono _ _ _
      | exact heliographref05_Put.mono _ _
      | exact heliographref05_early.mono _ _
      | exact LeO.none _
      | refine LeO.ite ?_ ?_
      | refine LeO.bind ?_ (fun _ => ?_)
set_option maxHeartbeats 8000000 in
set_option maxRecDepth 100000 in
theorem heliographref05_Get.calls (k : Nat) (a0 : ByteArray) (a1 : Int) (r1 : ByteArray) (r2 : Int) (r3 : Int) (w : World) (h : heliographref05_Get.f k a0 a1 = some (r1, r2, r3)) :
    Calls Tryd.prog 29 #[.string a0, .int .i64 a1] w fun e w' => e = .returned (.tuple #[.string r1, .int .i64 r2, .int .i64 r3]) ∧ Below w.heap.size w w' := by
  have HB := Aside0.mk (Below.refl w.heap.size w)
  have H : (if a1 < 0 then (heliographref05_Get.j0 k a0 a1 true) else (heliographref05_Get.j0 k a0 a1 (decide (a1 > (a0.size : Int))))) = some (r1, r2, r3) := h
  clear h
  have HC3 := Aside0.mk H
  clear H
  go_enter Tryd.func29, Tryd.ntmps29
  go_upto_region 1 with (fail)
  go_cut [21] (fun v21 wc => ∃ (kq : Nat) (x21_2 : Bool), v21 = .bool x21_2 ∧ Aside0 (heliographref05_Get.j0 kq a0 a1 x21_2 = some (r1, r2, r3)) ∧ Aside0 (kq ≤ k) ∧ Aside0 (Below w.heap.size w wc))
  case first =>
    have H := HC3.out
    clear HC3
    by_cases c4 : a1 < 0
    · rw [if_pos c4] at H
      have c4b0 : decide (a1 < 0) = true := decide_eq_true c4
      clear c4
      (first | rw [c4b0] | (simp only [i64_w, i32_w]; rw [c4b0]) | skip)
      have H' := Aside0.mk H
      clear H
      go_wp2
      go_meet
      case rel => exact ⟨_, (true), (by first | rfl | (simp; done) | (simp [*]; done)), H', ⟨by first | omega | exact Nat.le_refl _⟩, ⟨by repeat (first | (with_reducible first | exact HB.out | apply below_alloc | apply pw_below_drewN | apply below_drew1) | exact HB.out)⟩⟩
    · rw [if_neg c4] at H
      have c4b0 : decide (a1 < 0) = false := decide_eq_false c4
      clear c4
      (first | rw [c4b0] | (simp only [i64_w, i32_w]; rw [c4b0]) | skip)
      have H' := Aside0.mk H
      clear H
      go_wp2
      go_meet
      case rel => exact ⟨_, (decide (a1 > (a0.size : Int))), (by first | rfl | (simp; done) | (simp [*]; done)), H', ⟨by first | omega | exact Nat.le_refl _⟩, ⟨by repeat (first | (with_reducible first | exact HB.out | apply below_alloc | apply pw_below_drewN | apply below_drew1) | exact HB.out)⟩⟩
  case rest =>
    clear HC3
    try clear c2
    try clear p2
    try clear c4
    try clear c4b0
    obtain ⟨kq, x21_2, rfl, HA, HJ2, HB⟩ := hcut
    cases kq with
    | zero => exact absurd HA.out (by simp [heliographref05_Get.j0])
    | succ kj2 =>
      have H := HA.out
      clear HA
      simp only [heliographref05_Get.j0] at H
      by_cases c5 : x21_2 = true
      · subst c5
        have H1 : (some ((⟨#[]⟩ : ByteArray), 0, 1)) = some (r1, r2, r3) := by rw [if_pos rfl] at H; exact H
        clear H
        have H := H1
        clear H1
        simp only [Option.some.injEq, Prod.mk.injEq] at H
        obtain ⟨rfl, rfl, rfl⟩ := H
        go_wp2
        go_ret3
        exact ⟨by first | rfl | (simp [errW_none, errW_some] <;> rfl) | (simp [*, errW_none, errW_some] <;> rfl), by repeat (first | (with_reducible first | exact HB.out | apply below_alloc | apply pw_below_drewN | apply below_drew1) | exact HB.out)⟩
      · replace c5 := Bool.eq_false_iff.mpr c5
        subst c5
        have H1 : (if a1 = (a0.size : Int) then (some ((⟨#[]⟩ : ByteArray), a1, 1)) else (if 0 ≤ a1 then (if a1 ≤ (a0.size : Int) then ((heliographref05_early.f kj2 (a0.extract (a1 : Int).toNat a0.size)).bind fun t257 => (if t257 = true then (some ((⟨#[]⟩ : ByteArray), a1, 2)) else ((heliographref03_Get.f kj2 a0 a1).bind fun bt258 => (if bt258.2.2 = 0 then (heliographref05_Get.j1 kj2 a0 a1 bt258.1 bt258.2.1 (decide (bt258.1 > 70000))) else (heliographref05_Get.j1 kj2 a0 a1 bt258.1 bt258.2.1 true))))) else (none)) else (none))) = some (r1, r2, r3) := by rw [if_neg (show ¬ (false = true) by decide)] at H; exact H
        clear H
        have H := H1
        clear H1
        by_cases c6 : a1 = (a0.size : Int)
        · rw [if_pos c6] at H
          have c6b0 : (a1 == (a0.size : Int)) = true := beq_iff_eq.mpr c6
          have c6b1 : (a1 != (a0.size : Int)) = false := bne_eq_false_iff_eq.mpr c6
          clear c6
          simp only [Option.some.injEq, Prod.mk.injEq] at H
          obtain ⟨rfl, rfl, rfl⟩ := H
          go_wp2
          go_ret3
          exact ⟨by first | rfl | (simp [errW_none, errW_some] <;> rfl) | (simp [*, errW_none, errW_some] <;> rfl), by repeat (first | (with_reducible first | exact HB.out | apply below_alloc | apply pw_below_drewN | apply below_drew1) | exact HB.out)⟩
        · rw [if_neg c6] at H
          have c6b0 : (a1 == (a0.size : Int)) = false := beq_eq_false_iff_ne.mpr c6
          have c6b1 : (a1 != (a0.size : Int)) = true := bne_iff_ne.mpr c6
          by_cases c7 : 0 ≤ a1
          · rw [if_pos c7] at H
            have c7b0 := eq_true c7
            have c7b1 : decide (0 ≤ a1) = true := decide_eq_true c7
            clear c7
            by_cases c8 : a1 ≤ (a0.size : Int)
            · rw [if_pos c8] at H
              have c8b0 := eq_true c8
              have c8b1 : decide (a1 ≤ (a0.size : Int)) = true := decide_eq_true c8
              clear c8
              replace H := Option.bind_eq_some_iff.mp H
              obtain ⟨t257, A90, H⟩ := H
              replace H : (if t257 = true then (some ((⟨#[]⟩ : ByteArray), a1, 2)) else ((heliographref03_Get.f kj2 a0 a1).bind fun bt258 => (if bt258.2.2 = 0 then (heliographref05_Get.j1 kj2 a0 a1 bt258.1 bt258.2.1 (decide (bt258.1 > 70000))) else (heliographref05_Get.j1 kj2 a0 a1 bt258.1 bt258.2.1 true)))) = some (r1, r2, r3) := H
              have A9 := Aside0.mk A90
              clear A90
              by_cases c10 : t257 = true
              · subst c10
                have H1 : (some ((⟨#[]⟩ : ByteArray), a1, 2)) = some (r1, r2, r3) := by rw [if_pos rfl] at H; exact H
                clear H
                have H := H1
                clear H1
                simp only [Option.some.injEq, Prod.mk.injEq] at H
                obtain ⟨rfl, rfl, rfl⟩ := H
                go_wp2_with (first | ((with_reducible refine gate_callee (f := 46) rfl ?_); refine goesL_ (some 30) rfl rfl Tryd.func46 (by kernel_rfl) rfl #[.string (a0.extract (a1 : Int).toNat a0.size)] rfl (by (try simp only [List.map_toArray, List.map_cons, List.map_nil]); first | done | rfl | (simp only [List.length_drop, List.length_take]; rfl)) ?_; (with_reducible refine (heliographref05_early.calls kj2 (a0.extract (a1 : Int).toNat a0.size) true _ A9.out).mono ?_); rintro e w' ⟨rfl, ⟨nd, rfl⟩⟩; refine ⟨_, rfl, ?_⟩))
                go_ret3
                exact ⟨by first | rfl | (simp [errW_none, errW_some] <;> rfl) | (simp [*, errW_none, errW_some] <;> rfl), by repeat (first | (with_reducible first | exact HB.out | apply below_alloc | apply pw_below_drewN | apply below_drew1) | exact HB.out)⟩
              · replace c10 := Bool.eq_false_iff.mpr c10
                subst c10
                have H1 : ((heliographref03_Get.f kj2 a0 a1).bind fun bt258 => (if bt258.2.2 = 0 then (heliographref05_Get.j1 kj2 a0 a1 bt258.1 bt258.2.1 (decide (bt258.1 > 70000))) else (heliographref05_Get.j1 kj2 a0 a1 bt258.1 bt258.2.1 true))) = some (r1, r2, r3) := by rw [if_neg (show ¬ (false = true) by decide)] at H; exact H
                clear H
                have H := H1
                clear H1
                replace H := Option.bind_eq_some_iff.mp H
                obtain ⟨⟨t258, t259, t260⟩, A110, H⟩ := H
                replace H : (if t260 = 0 then (heliographref05_Get.j1 kj2 a0 a1 t258 t259 (decide (t258 > 70000))) else (heliographref05_Get.j1 kj2 a0 a1 t258 t259 true)) = some (r1, r2, r3) := H
                have A11 := Aside0.mk A110
                clear A110
                have HC12 := Aside0.mk H
                clear H
                go_upto_region 9 with (first | ((with_reducible refine gate_callee (f := 46) rfl ?_); refine goesL_ (some 30) rfl rfl Tryd.func46 (by kernel_rfl) rfl #[.string (a0.extract (a1 : Int).toNat a0.size)] rfl (by (try simp only [List.map_toArray, List.map_cons, List.map_nil]); first | done | rfl | (simp only [List.length_drop, List.length_take]; rfl)) ?_; (with_reducible refine (heliographref05_early.calls kj2 (a0.extract (a1 : Int).toNat a0.size) false _ A9.out).mono ?_); rintro e w' ⟨rfl, ⟨nd, rfl⟩⟩; refine ⟨_, rfl, ?_⟩) | ((with_reducible refine gate_callee (f := 47) rfl ?_); refine goesL_ (some 36) rfl rfl Tryd.func47 (by kernel_rfl) rfl #[.string a0, .int .i64 a1] rfl (by (try simp only [List.map_toArray, List.map_cons, List.map_nil]); first | done | rfl | (simp only [List.length_drop, List.length_take]; rfl)) ?_; (with_reducible refine (heliographref03_Get.calls kj2 a0 a1 t258 t259 t260 _ A11.out).mono ?_); rintro e w13 ⟨rfl, hb⟩; refine ⟨_, rfl, ?_⟩; have n0_ := Aside0.mk (below_step (by repeat (first | (with_reducible first | exact HB.out | apply below_alloc | apply pw_below_drewN | apply below_drew1) | exact HB.out)) hb); clear HB; have HB := n0_; clear n0_; (try clear hb); (try clear hb2); (try clear hk); (try clear hi)))
                (try simp only [Act.put, List.setIfInBounds_toArray, List.set_cons_zero, List.set_cons_succ])
                go_cut [45] (fun v45 wc => ∃ (kq : Nat) (x45_11 : Bool), v45 = .bool x45_11 ∧ Aside0 (heliographref05_Get.j1 kq a0 a1 t258 t259 x45_11 = some (r1, r2, r3)) ∧ Aside0 (kq ≤ kj2) ∧ Aside0 (Below w.heap.size w wc))
                case first =>
                  have H := HC12.out
                  clear HC12
                  by_cases c14 : t260 = 0
                  · rw [if_pos c14] at H
                    have c14b0 : (t260 == 0) = true := beq_iff_eq.mpr c14
                    have c14b1 : (t260 != 0) = false := bne_eq_false_iff_eq.mpr c14
                    clear c14
                    (first | rw [c14b0] | (simp only [i64_w, i32_w]; rw [c14b0]) | skip)
                    have H' := Aside0.mk H
                    clear H
                    go_wp2
                    go_meet
                    case rel => exact ⟨_, (decide (t258 > 70000)), (by first | rfl | (simp; done) | (simp [*]; done)), H', ⟨by have := HJ2.out; first | omega | exact Nat.le_refl _⟩, ⟨by repeat (first | (with_reducible first | exact HB.out | apply below_alloc | apply pw_below_drewN | apply below_drew1) | exact HB.out)⟩⟩
                  · rw [if_neg c14] at H
                    have c14b0 : (t260 == 0) = false := beq_eq_false_iff_ne.mpr c14
                    have c14b1 : (t260 != 0) = true := bne_iff_ne.mpr c14
                    (first | rw [c14b0] | (simp only [i64_w, i32_w]; rw [c14b0]) | skip)
                    have H' := Aside0.mk H
                    clear H
                    go_wp2
                    go_meet
                    case rel => exact ⟨_, (true), (by first | rfl | (simp; done) | (simp [*]; done)), H', ⟨by have := HJ2.out; first | omega | exact Nat.le_refl _⟩, ⟨by repeat (first | (with_reducible first | exact HB.out | apply below_alloc | apply pw_below_drewN | apply below_drew1) | exact HB.out)⟩⟩
                case rest =>
                  clear HC12
                  try clear c1
                  try clear c2
                  try clear p2
                  try clear c4
                  try clear c4b0
                  try clear c5
                  try clear c6
                  try clear c6b0
                  try clear c6b1
                  try clear c7
                  try clear c7b0
                  try clear c7b1
                  try clear c8
                  try clear c8b0
                  try clear c8b1
                  try clear c10
                  try clear c14
                  try clear c14b0
                  try clear c14b1
                  try clear p2
                  obtain ⟨kq, x45_11, rfl, HA, HJ11, HB⟩ := hcut
                  cases kq with
                  | zero => exact absurd HA.out (by simp [heliographref05_Get.j1])
                  | succ kj11 =>
                    have H := HA.out
                    clear HA
                    simp only [heliographref05_Get.j1] at H
                    by_cases c15 : x45_11 = true
                    · subst c15
                      have H1 : (some ((⟨#[]⟩ : ByteArray), a1, 3)) = some (r1, r2, r3) := by rw [if_pos rfl] at H; exact H
                      clear H
                      have H := H1
                      clear H1
                      simp only [Option.some.injEq, Prod.mk.injEq] at H
                      obtain ⟨rfl, rfl, rfl⟩ := H
                      go_wp2
                      go_ret3
                      exact ⟨by first | rfl | (simp [errW_none, errW_some] <;> rfl) | (simp [*, errW_none, errW_some] <;> rfl), by repeat (first | (with_reducible first | exact HB.out | apply below_alloc | apply pw_below_drewN | apply below_drew1) | exact HB.out)⟩
                    · replace c15 := Bool.eq_false_iff.mpr c15
                      subst c15
                      have H1 : (if (wrap64 ((a0.size : Int) - t259)) < (wrap64 ((wrap64 (t258)) + 4)) then (some ((⟨#[]⟩ : ByteArray), a1, 2)) else (if 0 ≤ t259 then (if t259 ≤ (wrap64 (t259 + (wrap64 (t258)))) then (if (wrap64 (t259 + (wrap64 (t258)))) ≤ (a0.size : Int) then ((heliographref05_Put.f kj11 (a0.extract (t259 : Int).toNat ((wrap64 (t259 + (wrap64 (t258)))) : Int).toNat)).bind fun bt261 => (if 0 ≤ a1 then (if a1 ≤ (wrap64 ((wrap64 (t259 + (wrap64 (t258)))) + 4)) then (if (wrap64 ((wrap64 (t259 + (wrap64 (t258)))) + 4)) ≤ (a0.size : Int) then (if (a0.extract (a1 : Int).toNat ((wrap64 ((wrap64 (t259 + (wrap64 (t258)))) + 4)) : Int).toNat).toList = bt261.1.toList then (some (a0.extract (t259 : Int).toNat ((wrap64 (t259 + (wrap64 (t258)))) : Int).toNat, wrap64 ((wrap64 (t259 + (wrap64 (t258)))) + 4), 0)) else (some ((⟨#[]⟩ : ByteArray), a1, 3))) else (none)) else (none)) else (none))) else (none)) else (none)) else (none))) = some (r1, r2, r3) := by rw [if_neg (show ¬ (false = true) by decide)] at H; exact H
                      clear H
                      have H := H1
                      clear H1
                      by_cases c16 : (wrap64 ((a0.size : Int) - t259)) < (wrap64 ((wrap64 (t258)) + 4))
                      · rw [if_pos c16] at H
                        have c16b0 : decide ((wrap64 ((a0.size : Int) - t259)) < (wrap64 ((wrap64 (t258)) + 4))) = true := decide_eq_true c16
                        clear c16
                        simp only [Option.some.injEq, Prod.mk.injEq] at H
                        obtain ⟨rfl, rfl, rfl⟩ := H
                        go_wp2
                        go_ret3
                        exact ⟨by first | rfl | (simp [errW_none, errW_some] <;> rfl) | (simp [*, errW_none, errW_some] <;> rfl), by repeat (first | (with_reducible first | exact HB.out | apply below_alloc | apply pw_below_drewN | apply below_drew1) | exact HB.out)⟩
                      · rw [if_neg c16] at H
                        have c16b0 : decide ((wrap64 ((a0.size : Int) - t259)) < (wrap64 ((wrap64 (t258)) + 4))) = false := decide_eq_false c16
                        clear c16
                        by_cases c17 : 0 ≤ t259
                        · rw [if_pos c17] at H
                          have c17b0 := eq_true c17
                          have c17b1 : decide (0 ≤ t259) = true := decide_eq_true c17
                          clear c17
                          by_cases c18 : t259 ≤ (wrap64 (t259 + (wrap64 (t258))))
                          · rw [if_pos c18] at H
                            have c18b0 := eq_true c18
                            have c18b1 : decide (t259 ≤ (wrap64 (t259 + (wrap64 (t258))))) = true := decide_eq_true c18
                            by_cases c19 : (wrap64 (t259 + (wrap64 (t258)))) ≤ (a0.size : Int)
                            · rw [if_pos c19] at H
                              have c19b0 := eq_true c19
                              have c19b1 : decide ((wrap64 (t259 + (wrap64 (t258)))) ≤ (a0.size : Int)) = true := decide_eq_true c19
                              replace H := Option.bind_eq_some_iff.mp H
                              obtain ⟨⟨t261, t262⟩, A200, H⟩ := H
                              replace H : (if 0 ≤ a1 then (if a1 ≤ (wrap64 ((wrap64 (t259 + (wrap64 (t258)))) + 4)) then (if (wrap64 ((wrap64 (t259 + (wrap64 (t258)))) + 4)) ≤ (a0.size : Int) then (if (a0.extract (a1 : Int).toNat ((wrap64 ((wrap64 (t259 + (wrap64 (t258)))) + 4)) : Int).toNat).toList = t261.toList then (some (a0.extract (t259 : Int).toNat ((wrap64 (t259 + (wrap64 (t258)))) : Int).toNat, wrap64 ((wrap64 (t259 + (wrap64 (t258)))) + 4), 0)) else (some ((⟨#[]⟩ : ByteArray), a1, 3))) else (none)) else (none)) else (none)) = some (r1, r2, r3) := H
                              have A20 := Aside0.mk A200
                              clear A200
                              by_cases c21 : 0 ≤ a1
                              · rw [if_pos c21] at H
                                have c21b0 := eq_true c21
                                have c21b1 : decide (0 ≤ a1) = true := decide_eq_true c21
                                clear c21
                                by_cases c22 : a1 ≤ (wrap64 ((wrap64 (t259 + (wrap64 (t258)))) + 4))
                                · rw [if_pos c22] at H
                                  have c22b0 := eq_true c22
                                  have c22b1 : decide (a1 ≤ (wrap64 ((wrap64 (t259 + (wrap64 (t258)))) + 4))) = true := decide_eq_true c22
                                  by_cases c23 : (wrap64 ((wrap64 (t259 + (wrap64 (t258)))) + 4)) ≤ (a0.size : Int)
                                  · rw [if_pos c23] at H
                                    have c23b0 := eq_true c23
                                    have c23b1 : decide ((wrap64 ((wrap64 (t259 + (wrap64 (t258)))) + 4)) ≤ (a0.size : Int)) = true := decide_eq_true c23
                                    by_cases c24 : (a0.extract (a1 : Int).toNat ((wrap64 ((wrap64 (t259 + (wrap64 (t258)))) + 4)) : Int).toNat).toList = t261.toList
                                    · rw [if_pos c24] at H
                                      have c24b0 : ((a0.extract (a1 : Int).toNat ((wrap64 ((wrap64 (t259 + (wrap64 (t258)))) + 4)) : Int).toNat).toList == t261.toList) = true := beq_iff_eq.mpr c24
                                      have c24b1 : ((a0.extract (a1 : Int).toNat ((wrap64 ((wrap64 (t259 + (wrap64 (t258)))) + 4)) : Int).toNat).toList != t261.toList) = false := bne_eq_false_iff_eq.mpr c24
                                      clear c24
                                      simp only [Option.some.injEq, Prod.mk.injEq] at H
                                      obtain ⟨rfl, rfl, rfl⟩ := H
                                      go_wp2_with (first | ((with_reducible refine gate_callee (f := 39) rfl ?_); refine goesL_ (some 65) rfl rfl Tryd.func39 (by kernel_rfl) rfl #[.string (a0.extract (t259 : Int).toNat ((wrap64 (t259 + (wrap64 (t258)))) : Int).toNat)] rfl (by (try simp only [List.map_toArray, List.map_cons, List.map_nil]); first | done | rfl | (simp only [List.length_drop, List.length_take]; rfl)) ?_; (with_reducible refine (heliographref05_Put.calls kj11 (a0.extract (t259 : Int).toNat ((wrap64 (t259 + (wrap64 (t258)))) : Int).toNat) t261 t262 _ A20.out).mono ?_); rintro e w25 ⟨rfl, hb⟩; refine ⟨_, rfl, ?_⟩; have n0_ := Aside0.mk (below_step (by repeat (first | (with_reducible first | exact HB.out | apply below_alloc | apply pw_below_drewN | apply below_drew1) | exact HB.out)) hb); clear HB; have HB := n0_; clear n0_; (try clear hb); (try clear hb2); (try clear hk); (try clear hi)))
                                      go_ret3
                                      exact ⟨by first | rfl | (simp [errW_none, errW_some] <;> rfl) | (simp [*, errW_none, errW_some] <;> rfl), by repeat (first | (with_reducible first | exact HB.out | apply below_alloc | apply pw_below_drewN | apply below_drew1) | exact HB.out)⟩
                                    · rw [if_neg c24] at H
                                      have c24b0 : ((a0.extract (a1 : Int).toNat ((wrap64 ((wrap64 (t259 + (wrap64 (t258)))) + 4)) : Int).toNat).toList == t261.toList) = false := beq_eq_false_iff_ne.mpr c24
                                      have c24b1 : ((a0.extract (a1 : Int).toNat ((wrap64 ((wrap64 (t259 + (wrap64 (t258)))) + 4)) : Int).toNat).toList != t261.toList) = true := bne_iff_ne.mpr c24
                                      simp only [Option.some.injEq, Prod.mk.injEq] at H
                                      obtain ⟨rfl, rfl, rfl⟩ := H
                                      go_wp2_with (first | ((with_reducible refine gate_callee (f := 39) rfl ?_); refine goesL_ (some 65) rfl rfl Tryd.func39 (by kernel_rfl) rfl #[.string (a0.extract (t259 : Int).toNat ((wrap64 (t259 + (wrap64 (t258)))) : Int).toNat)] rfl (by (try simp only [List.map_toArray, List.map_cons, List.map_nil]); first | done | rfl | (simp only [List.length_drop, List.length_take]; rfl)) ?_; (with_reducible refine (heliographref05_Put.calls kj11 (a0.extract (t259 : Int).toNat ((wrap64 (t259 + (wrap64 (t258)))) : Int).toNat) t261 t262 _ A20.out).mono ?_); rintro e w26 ⟨rfl, hb⟩; refine ⟨_, rfl, ?_⟩; have n0_ := Aside0.mk (below_step (by repeat (first | (with_reducible first | exact HB.out | apply below_alloc | apply pw_below_drewN | apply below_drew1) | exact HB.out)) hb); clear HB; have HB := n0_; clear n0_; (try clear hb); (try clear hb2); (try clear hk); (try clear hi)))
                                      go_ret3
                                      exact ⟨by first | rfl | (simp [errW_none, errW_some] <;> rfl) | (simp [*, errW_none, errW_some] <;> rfl), by repeat (first | (with_reducible first | exact HB.out | apply below_alloc | apply pw_below_drewN | apply below_drew1) | exact HB.out)⟩
                                  · rw [if_neg c23] at H
                                    exact absurd H (by simp)
                                · rw [if_neg c22] at H
                                  exact absurd H (by simp)
                              · rw [if_neg c21] at H
                                exact absurd H (by simp)
                            · rw [if_neg c19] at H
                              exact absurd H (by simp)
                          · rw [if_neg c18] at H
                            exact absurd H (by simp)
                        · rw [if_neg c17] at H
                          exact absurd H (by simp)
            · rw [if_neg c8] at H
              exact absurd H (by simp)
          · rw [if_neg c7] at H
            exact absurd H (by simp)

/-! ### frame_Scanner_Left: function 30 -/
def frame_Scanner_Left.f (s0_0 : ByteArray) (s0_1 : Bool) : Option (Int × ByteArray × Bool) := some ((s0_0.size : Int), s0_0, s0_1)
set_option maxHeartbeats 8000000 in
set_option maxRecDepth 100000 in
theorem frame_Scanner_Left.calls (g : Nat) (s0_0 : ByteArray) (s0_1 : Bool) (r1 : Int) (r2 : ByteArray) (r3 : Bool) (w0 w : World) (hI : IsS65 w0 w g s0_0 s0_1) (hB : Below w0.heap.size w0 w) (h : frame_Scanner_Left.f s0_0 s0_1 = some (r1, r2, r3)) :
    Calls Tryd.prog 30 #[.pointer (some ⟨g, 0, none⟩)] w fun e w' => e = .returned (.int .i64 r1) ∧ IsS65 w0 w' g r2 r3 ∧ Below w0.heap.size w0 w' ∧ KeepBut w w' g none := by
  have HI0 := Aside0.mk hI
  have HK := Aside0.mk (KeepBut.refl w g none)
  have HL := Aside0.mk hB.size
  clear hI
  have HW0 := Aside0.mk hB.size
  have HB := Aside0.mk hB
  clear hB
  have H : (some ((s0_0.size : Int), s0_0, s0_1)) = some (r1, r2, r3) := h
  clear h
  simp only [Option.some.injEq, Prod.mk.injEq] at H
  obtain ⟨rfl, rfl, rfl⟩ := H
  obtain ⟨HGz2, hgz2⟩ := HI0.out
  have hcz2_0 := cellS65_0 HGz2
  have hcz2_1 := cellS65_1 HGz2
  have hfz2_0 := blk_frozen HGz2 0
  have hfz2_1 := blk_frozen HGz2 1
  clear HGz2 hgz2
  go_enter Tryd.func30, Tryd.ntmps30
  go_wp2
  go_ret
  exact ⟨by first | rfl | (simp [errW_none, errW_some] <;> rfl) | (simp [*, errW_none, errW_some] <;> rfl), by repeat (first | (with_reducible first | exact HI0.out | apply IsS65.alloc | apply IsS65.drewN | apply IsS65.drew | apply IsS65.set_0 | apply IsS65.set_1) | exact HI0.out), by repeat (first | (with_reducible first | exact HB.out | apply below_alloc | apply pw_below_drewN | apply below_drew1 | refine below_set ?_ (IsS65.ge HI0.out)) | exact HB.out), by repeat (first | (with_reducible first | exact HK.out | apply KeepBut.set_ | apply keep_drewN | apply keep_drew | apply keep_alloc) | exact HK.out)⟩

end Go.Proofs.YtbanbeaemmlikaaDoor.Px
