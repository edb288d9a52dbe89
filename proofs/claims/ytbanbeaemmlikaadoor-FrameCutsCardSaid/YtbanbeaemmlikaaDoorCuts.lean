/- Written by px.py, a program of this place (it runs the print of the kit with turns of its own): each Go function as a plain Lean function, and the proof that a call of the Go function comes to it. Conditions: none but what each theorem says. -/
import Derived.Test.YtbanbeaemmlikaaDoorPx0
import Derived.Test.YtbanbeaemmlikaaDoorPx7
import Derived.Test.YtbanbeaemmlikaaDoorPx9
import Derived.Test.YtbanbeaemmlikaaDoorPx16
import Derived.Test.YtbanbeaemmlikaaDoorCrest
namespace Go.Proofs.YtbanbeaemmlikaaDoor.Px
open Go.RowKit Go.Proofs.YtbanbeaemmlikaaDoorW.PrintWords Go.Proofs.YtbanbeaemmlikaaDoorW.PrintLast Go.Proofs.YtbanbeaemmlikaaDoorW.PrintMore
attribute [local go_sem high] not_u32
attribute [local go_sem] max2_int min2_int max_two min_two max_three min_three max_four min_four   -- for this text's walks alone
set_option linter.unusedVariables false
set_option linter.unusedSimpArgs false

/-! ### heliographlaw05_FrameCuts: function 13 -/
mutual
def heliographlaw05_FrameCuts.l0 : Nat → List ByteArray → Int → Int → Bool → List ByteArray → ByteArray → List Int → List Int → Int → Option (Bool)
  | 0, _, _, _, _, _, _, _, _, _ => none
  | k + 1, x0, x1, x2, x7, x8, x9, x10, x11, x12 => if x12 < (x0.length : Int) then (heliographlaw05_FrameCuts.j1 k x0 x1 x2 x7 x8 x9 x10 x11 x12 (decide (x12 < 20))) else (heliographlaw05_FrameCuts.j1 k x0 x1 x2 x7 x8 x9 x10 x11 x12 false)
def heliographlaw05_FrameCuts.j1 : Nat → List ByteArray → Int → Int → Bool → List ByteArray → ByteArray → List Int → List Int → Int → Bool → Option (Bool)
  | 0, _, _, _, _, _, _, _, _, _, _ => none
  | k + 1, x0, x1, x2, x7, x8, x9, x10, x11, x12, x37 => if x37 = true then (if 0 ≤ x12 then (if x12 < (x0.length : Int) then ((heliographlaw05_short.f (rdOf ByteArray.empty x0 x12) 100).bind fun t387 => ((frame_Put.f k t387).bind fun bt388 => (if x10.length < 17592186044416 then (if x8.length < 8796093022208 then (if x9.size + bt388.1.size ≤ 9223372036854775807 then (if x11.length < 17592186044416 then (heliographlaw05_FrameCuts.l0 k x0 x1 x2 x7 (x8 ++ [t387]) (x9 ++ bt388.1) (x10 ++ [(x9.size : Int)]) (x11 ++ [((x9.size : Int) + (bt388.1.size : Int))]) (wrap64 (x12 + 1))) else (none)) else (none)) else (none)) else (none)))) else (none)) else (none)) else (if x1 < 0 then (heliographlaw05_FrameCuts.j2 k x2 x7 x8 x9 x10 x11 (wrap64 (-(wrap64 (x1 + 1))))) else (heliographlaw05_FrameCuts.j2 k x2 x7 x8 x9 x10 x11 x1))
def heliographlaw05_FrameCuts.j2 : Nat → Int → Bool → List ByteArray → ByteArray → List Int → List Int → Int → Option (Bool)
  | 0, _, _, _, _, _, _, _ => none
  | k + 1, x2, x7, x8, x9, x10, x11, x16 => if (wrap64 ((x9.size : Int) + 1)) = 0 then (none) else (heliographlaw05_FrameCuts.l1 k x2 x7 x8 x9 x10 x11 (Int.tmod x16 (wrap64 ((x9.size : Int) + 1))) 0)
def heliographlaw05_FrameCuts.j4 : Nat → Int → Bool → List ByteArray → ByteArray → List Int → List Int → Int → Int → Option (Bool)
  | 0, _, _, _, _, _, _, _, _ => none
  | k + 1, x2, x7, x8, x9, x10, x11, x16, x17 => if 0 ≤ x16 then (if x16 ≤ (x9.size : Int) then ((frame_Scan.f k (x9.extract 0 (x16 : Int).toNat)).bind fun bt400 => (if 0 ≤ x17 then (if x17 ≤ (x8.length : Int) then ((heliographlaw05_same.f k bt400.1 (x8.take (x17 : Int).toNat)).bind fun t409 => (heliographlaw05_FrameCuts.l2 k x2 x7 x8 x9 x10 x11 x16 x17 bt400.2.1 bt400.2.2 t409 (x16 == 0) 0)) else (none)) else (none))) else (none)) else (none)
def heliographlaw05_FrameCuts.l2 : Nat → Int → Bool → List ByteArray → ByteArray → List Int → List Int → Int → Int → Int → Int → Bool → Bool → Int → Option (Bool)
  | 0, _, _, _, _, _, _, _, _, _, _, _, _, _ => none
  | k + 1, x2, x7, x8, x9, x10, x11, x16, x17, x19, x20, x21, x22, x23 => if x23 < (x11.length : Int) then (if x22 = true then (heliographlaw05_FrameCuts.l2 k x2 x7 x8 x9 x10 x11 x16 x17 x19 x20 x21 true (wrap64 (x23 + 1))) else (if 0 ≤ x23 then (heliographlaw05_FrameCuts.l2 k x2 x7 x8 x9 x10 x11 x16 x17 x19 x20 x21 ((rd x11 x23) == x16) (wrap64 (x23 + 1))) else (none))) else (if x21 = true then (if x22 = true then (if x20 = 1 then (heliographlaw05_FrameCuts.j6 k x2 x7 x8 x9 x10 x16 x17 (decide (x19 > x16))) else (heliographlaw05_FrameCuts.j6 k x2 x7 x8 x9 x10 x16 x17 true)) else (if x20 = 2 then (heliographlaw05_FrameCuts.j6 k x2 x7 x8 x9 x10 x16 x17 (decide (x19 > x16))) else (heliographlaw05_FrameCuts.j6 k x2 x7 x8 x9 x10 x16 x17 true))) else (heliographlaw05_FrameCuts.j6 k x2 x7 x8 x9 x10 x16 x17 true))
def heliographlaw05_FrameCuts.j6 : Nat → Int → Bool → List ByteArray → ByteArray → List Int → Int → Int → Bool → Option (Bool)
  | 0, _, _, _, _, _, _, _, _ => none
  | k + 1, x2, x7, x8, x9, x10, x16, x17, x143 => if x143 = true then (some false) else (if x16 = (x9.size : Int) then (some x7) else (if x2 = 0 then (some x7) else (if 0 ≤ x17 then (if x17 < (x10.length : Int) then (if x16 = (rd x10 x17) then (some x7) else ((FrameCutsRest.f k x9 x16 x2 x17 x8 x10 x7).bind fun t412 => (some t412))) else (none)) else (none))))
def heliographlaw05_FrameCuts.l1 : Nat → Int → Bool → List ByteArray → ByteArray → List Int → List Int → Int → Int → Option (Bool)
  | 0, _, _, _, _, _, _, _, _ => none
  | k + 1, x2, x7, x8, x9, x10, x11, x16, x17 => if x17 < (x8.length : Int) then (if 0 ≤ x17 then (if x17 < (x11.length : Int) then (if (rd x11 x17) ≤ x16 then (heliographlaw05_FrameCuts.l1 k x2 x7 x8 x9 x10 x11 x16 (wrap64 (x17 + 1))) else (heliographlaw05_FrameCuts.j4 k x2 x7 x8 x9 x10 x11 x16 x17)) else (none)) else (none)) else (heliographlaw05_FrameCuts.j4 k x2 x7 x8 x9 x10 x11 x16 x17)
end
def heliographlaw05_FrameCuts.f (k : Nat) (l0 : List ByteArray) (a1 : Int) (a2 : Int) : Option (Bool) := (heliographlaw05_awake.f k).bind fun t385 => (heliographlaw05_FrameCuts.l0 k l0 a1 a2 t385 ([] : List ByteArray) (⟨#[]⟩ : ByteArray) ([] : List Int) ([] : List Int) 0)
theorem heliographlaw05_FrameCuts.mono_l : ∀ k, (∀ y0 y1 y2 y3 y4 y5 y6 y7 y8, LeO (heliographlaw05_FrameCuts.l0 k y0 y1 y2 y3 y4 y5 y6 y7 y8) (heliographlaw05_FrameCuts.l0 (k + 1) y0 y1 y2 y3 y4 y5 y6 y7 y8)) ∧ (∀ y0 y1 y2 y3 y4 y5 y6 y7 y8 y9, LeO (heliographlaw05_FrameCuts.j1 k y0 y1 y2 y3 y4 y5 y6 y7 y8 y9) (heliographlaw05_FrameCuts.j1 (k + 1) y0 y1 y2 y3 y4 y5 y6 y7 y8 y9)) ∧ (∀ y0 y1 y2 y3 y4 y5 y6, LeO (heliographlaw05_FrameCuts.j2 k y0 y1 y2 y3 y4 y5 y6) (heliographlaw05_FrameCuts.j2 (k + 1) y0 y1 y2 y3 y4 y5 y6)) ∧ (∀ y0 y1 y2 y3 y4 y5 y6 y7, LeO (heliographlaw05_FrameCuts.j4 k y0 y1 y2 y3 y4 y5 y6 y7) (heliographlaw05_FrameCuts.j4 (k + 1) y0 y1 y2 y3 y4 y5 y6 y7)) ∧ (∀ y0 y1 y2 y3 y4 y5 y6 y7 y8 y9 y10 y11 y12, LeO (heliographlaw05_FrameCuts.l2 k y0 y1 y2 y3 y4 y5 y6 y7 y8 y9 y10 y11 y12) (heliographlaw05_FrameCuts.l2 (k + 1) y0 y1 y2 y3 y4 y5 y6 y7 y8 y9 y10 y11 y12)) ∧ (∀ y0 y1 y2 y3 y4 y5 y6 y7, LeO (heliographlaw05_FrameCuts.j6 k y0 y1 y2 y3 y4 y5 y6 y7) (heliographlaw05_FrameCuts.j6 (k + 1) y0 y1 y2 y3 y4 y5 y6 y7)) ∧ (∀ y0 y1 y2 y3 y4 y5 y6 y7, LeO (heliographlaw05_FrameCuts.l1 k y0 y1 y2 y3 y4 y5 y6 y7) (heliographlaw05_FrameCuts.l1 (k + 1) y0 y1 y2 y3 y4 y5 y6 y7))
  | 0 => ⟨fun _ _ _ _ _ _ _ _ _ r h => by simp [heliographlaw05_FrameCuts.l0] at h, fun _ _ _ _ _ _ _ _ _ _ r h => by simp [heliographlaw05_FrameCuts.j1] at h, fun _ _ _ _ _ _ _ r h => by simp [heliographlaw05_FrameCuts.j2] at h, fun _ _ _ _ _ _ _ _ r h => by simp [heliographlaw05_FrameCuts.j4] at h, fun _ _ _ _ _ _ _ _ _ _ _ _ _ r h => by simp [heliographlaw05_FrameCuts.l2] at h, fun _ _ _ _ _ _ _ _ r h => by simp [heliographlaw05_FrameCuts.j6] at h, fun _ _ _ _ _ _ _ _ r h => by simp [heliographlaw05_FrameCuts.l1] at h⟩
  | k + 1 => by
    obtain ⟨ih0, ih1, ih2, ih3, ih4, ih5, ih6⟩ := heliographlaw05_FrameCuts.mono_l k
    refine ⟨?_, ?_, ?_, ?_, ?_, ?_, ?_⟩
    · intro y0 y1 y2 y3 y4 y5 y6 y7 y8
      unfold heliographlaw05_FrameCuts.l0
      repeat' first
      | (with_reducible exact ih0 _ _ _ _ _ _ _ _ _)
      | (with_reducible exact ih1 _ _ _ _ _ _ _ _ _ _)
      | (with_reducible exact ih2 _ _ _ _ _ _ _)
      | (with_reducible exact ih3 _ _ _ _ _ _ _ _)
      | (with_reducible exact ih4 _ _ _ _ _ _ _ _ _ _ _ _ _)
      | (with_reducible exact ih5 _ _ _ _ _ _ _ _)
      | (with_reducible exact ih6 _ _ _ _ _ _ _ _)
      | (with_reducible exact FrameCutsRest.mono _ _ _ _ _ _ _ _)
      | (with_reducible exact frame_Put.mono _ _)
      | (with_reducible exact frame_Scan.mono _ _)
      | (with_reducible exact heliographlaw05_awake.mono _)
      | (with_reducible exact heliographlaw05_same.mono _ _ _)
      | (with_reducible exact LeO.refl _)
      | (with_reducible exact LeO.none _)
      | (with_reducible refine LeO.ite ?_ ?_)
      | (with_reducible refine LeO.bind ?_ (fun _ => ?_))
      | exact ih0 _ _ _ _ _ _ _ _ _
      | exact ih1 _ _ _ _ _ _ _ _ _ _
      | exact ih2 _ _ _ _ _ _ _
      | exact ih3 _ _ _ _ _ _ _ _
      | exact ih4 _ _ _ _ _ _ _ _ _ _ _ _ _
      | exact ih5 _ _ _ _ _ _ _ _
      | exact ih6 _ _ _ _ _ _ _ _
      | exact FrameCutsRest.mono _ _ _ _ _ _ _ _
      | exact frame_Put.mono _ _
      | exact frame_Scan.mono _ _
      | exact heliographlaw05_awake.mono _
      | exact heliographlaw05_same.mono _ _ _
      | exact LeO.none _
      | refine LeO.ite ?_ ?_
      | refine LeO.bind ?_ (fun _ => ?_)
    · intro y0 y1 y2 y3 y4 y5 y6 y7 y8 y9
      unfold heliographlaw05_FrameCuts.j1
      repeat' first
      | (with_reducible exact ih0 _ _ _ _ _ _ _ _ _)
      | (with_reducible exact ih1 _ _ _ _ _ _ _ _ _ _)
      | (with_reducible exact ih2 _ _ _ _ _ _ _)
      | (with_reducible exact ih3 _ _ _ _ _ _ _ _)
      | (with_reducible exact ih4 _ _ _ _ _ _ _ _ _ _ _ _ _)
      | (with_reducible exact ih5 _ _ _ _ _ _ _ _)
      | (with_reducible exact ih6 _ _ _ _ _ _ _ _)
      | (with_reducible exact FrameCutsRest.mono _ _ _ _ _ _ _ _)
      | (with_reducible exact frame_Put.mono _ _)
      | (with_reducible exact frame_Scan.mono _ _)
      | (with_reducible exact heliographlaw05_awake.mono _)
      | (with_reducible exact heliographlaw05_same.mono _ _ _)
      | (with_reducible exact LeO.refl _)
      | (with_reducible exact LeO.none _)
      | (with_reducible refine LeO.ite ?_ ?_)
      | (with_reducible refine LeO.bind ?_ (fun _ => ?_))
      | exact ih0 _ _ _ _ _ _ _ _ _
      | exact ih1 _ _ _ _ _ _ _ _ _ _
      | exact ih2 _ _ _ _ _ _ _
      | exact ih3 _ _ _ _ _ _ _ _
      | exact ih4 _ _ _ _ _ _ _ _ _ _ _ _ _
      | exact ih5 _ _ _ _ _ _ _ _
      | exact ih6 _ _ _ _ _ _ _ _
      | exact FrameCutsRest.mono _ _ _ _ _ _ _ _
      | exact frame_Put.mono _ _
      | exact frame_Scan.mono _ _
      | exact heliographlaw05_awake.mono _
      | exact heliographlaw05_same.mono _ _ _
      | exact LeO.none _
      | refine LeO.ite ?_ ?_
      | refine LeO.bind ?_ (fun _ => ?_)
    · intro y0 y1 y2 y3 y4 y5 y6
      unfold heliographlaw05_FrameCuts.j2
      repeat' first
      | (with_reducible exact ih0 _ _ _ _ _ _ _ _ _)
      | (with_reducible exact ih1 _ _ _ _ _ _ _ _ _ _)
      | (with_reducible exact ih2 _ _ _ _ _ _ _)
      | (with_reducible exact ih3 _ _ _ _ _ _ _ _)
      | (with_reducible exact ih4 _ _ _ _ _ _ _ _ _ _ _ _ _)
      | (with_reducible exact ih5 _ _ _ _ _ _ _ _)
      | (with_reducible exact ih6 _ _ _ _ _ _ _ _)
      | (with_reducible exact FrameCutsRest.mono _ _ _ _ _ _ _ _)
      | (with_reducible exact frame_Put.mono _ _)
      | (with_reducible exact frame_Scan.mono _ _)
      | (with_reducible exact heliographlaw05_awake.mono _)
      | (with_reducible exact heliographlaw05_same.mono _ _ _)
      | (with_reducible exact LeO.refl _)
      | (with_reducible exact LeO.none _)
      | (with_reducible refine LeO.ite ?_ ?_)
      | (with_reducible refine LeO.bind ?_ (fun _ => ?_))
      | exact ih0 _ _ _ _ _ _ _ _ _
      | exact ih1 _ _ _ _ _ _ _ _ _ _
      | exact ih2 _ _ _ _ _ _ _
      | exact ih3 _ _ _ _ _ _ _ _
      | exact ih4 _ _ _ _ _ _ _ _ _ _ _ _ _
      | exact ih5 _ _ _ _ _ _ _ _
      | exact ih6 _ _ _ _ _ _ _ _
      | exact FrameCutsRest.mono _ _ _ _ _ _ _ _
      | exact frame_Put.mono _ _
      | exact frame_Scan.mono _ _
      | exact heliographlaw05_awake.mono _
      | exact heliographlaw05_same.mono _ _ _
      | exact LeO.none _
      | refine LeO.ite ?_ ?_
      | refine LeO.bind ?_ (fun _ => ?_)
    · intro y0 y1 y2 y3 y4 y5 y6 y7
      unfold heliographlaw05_FrameCuts.j4
      repeat' first
      | (with_reducible exact ih0 _ _ _ _ _ _ _ _ _)
      | (with_reducible exact ih1 _ _ _ _ _ _ _ _ _ _)
      | (with_reducible exact ih2 _ _ _ _ _ _ _)
      | (with_reducible exact ih3 _ _ _ _ _ _ _ _)
      | (with_reducible exact ih4 _ _ _ _ _ _ _ _ _ _ _ _ _)
      | (with_reducible exact ih5 _ _ _ _ _ _ _ _)
      | (with_reducible exact ih6 _ _ _ _ _ _ _ _)
      | (with_reducible exact FrameCutsRest.mono _ _ _ _ _ _ _ _)
      | (with_reducible exact frame_Put.mono _ _)
      | (with_reducible exact frame_Scan.mono _ _)
      | (with_reducible exact heliographlaw05_awake.mono _)
      | (with_reducible exact heliographlaw05_same.mono _ _ _)
      | (with_reducible exact LeO.refl _)
      | (with_reducible exact LeO.none _)
      | (with_reducible refine LeO.ite ?_ ?_)
      | (with_reducible refine LeO.bind ?_ (fun _ => ?_))
      | exact ih0 _ _ _ _ _ _ _ _ _
      | exact ih1 _ _ _ _ _ _ _ _ _ _
      | exact ih2 _ _ _ _ _ _ _
      | exact ih3 _ _ _ _ _ _ _ _
      | exact ih4 _ _ _ _ _ _ _ _ _ _ _ _ _
      | exact ih5 _ _ _ _ _ _ _ _
      | exact ih6 _ _ _ _ _ _ _ _
      | exact FrameCutsRest.mono _ _ _ _ _ _ _ _
      | exact frame_Put.mono _ _
      | exact frame_Scan.mono _ _
      | exact heliographlaw05_awake.mono _
      | exact heliographlaw05_same.mono _ _ _
      | exact LeO.none _
      | refine LeO.ite ?_ ?_
      | refine LeO.bind ?_ (fun _ => ?_)
    · intro y0 y1 y2 y3 y4 y5 y6 y7 y8 y9 y10 y11 y12
      unfold heliographlaw05_FrameCuts.l2
      repeat' first
      | (with_reducible exact ih0 _ _ _ _ _ _ _ _ _)
      | (with_reducible exact ih1 _ _ _ _ _ _ _ _ _ _)
      | (with_reducible exact ih2 _ _ _ _ _ _ _)
      | (with_reducible exact ih3 _ _ _ _ _ _ _ _)
      | (with_reducible exact ih4 _ _ _ _ _ _ _ _ _ _ _ _ _)
      | (with_reducible exact ih5 _ _ _ _ _ _ _ _)
      | (with_reducible exact ih6 _ _ _ _ _ _ _ _)
      | (with_reducible exact FrameCutsRest.mono _ _ _ _ _ _ _ _)
      | (with_reducible exact frame_Put.mono _ _)
      | (with_reducible exact frame_Scan.mono _ _)
      | (with_reducible exact heliographlaw05_awake.mono _)
      | (with_reducible exact heliographlaw05_same.mono _ _ _)
      | (with_reducible exact LeO.refl _)
      | (with_reducible exact LeO.none _)
      | (with_reducible refine LeO.ite ?_ ?_)
      | (with_reducible refine LeO.bind ?_ (fun _ => ?_))
      | exact ih0 _ _ _ _ _ _ _ _ _
      | exact ih1 _ _ _ _ _ _ _ _ _ _
      | exact ih2 _ _ _ _ _ _ _
      | exact ih3 _ _ _ _ _ _ _ _
      | exact ih4 _ _ _ _ _ _ _ _ _ _ _ _ _
      | exact ih5 _ _ _ _ _ _ _ _
      | exact ih6 _ _ _ _ _ _ _ _
      | exact FrameCutsRest.mono _ _ _ _ _ _ _ _
      | exact frame_Put.mono _ _
      | exact frame_Scan.mono _ _
      | exact heliographlaw05_awake.mono _
      | exact heliographlaw05_same.mono _ _ _
      | exact LeO.none _
      | refine LeO.ite ?_ ?_
      | refine LeO.bind ?_ (fun _ => ?_)
    · intro y0 y1 y2 y3 y4 y5 y6 y7
      unfold heliographlaw05_FrameCuts.j6
      repeat' first
      | (with_reducible exact ih0 _ _ _ _ _ _ _ _ _)
      | (with_reducible exact ih1 _ _ _ _ _ _ _ _ _ _)
      | (with_reducible exact ih2 _ _ _ _ _ _ _)
      | (with_reducible exact ih3 _ _ _ _ _ _ _ _)
      | (with_reducible exact ih4 _ _ _ _ _ _ _ _ _ _ _ _ _)
      | (with_reducible exact ih5 _ _ _ _ _ _ _ _)
      | (with_reducible exact ih6 _ _ _ _ _ _ _ _)
      | (with_reducible exact FrameCutsRest.mono _ _ _ _ _ _ _ _)
      | (with_reducible exact frame_Put.mono _ _)
      | (with_reducible exact frame_Scan.mono _ _)
      | (with_reducible exact heliographlaw05_awake.mono _)
      | (with_reducible exact heliographlaw05_same.mono _ _ _)
      | (with_reducible exact LeO.refl _)
      | (with_reducible exact LeO.none _)
      | (with_reducible refine LeO.ite ?_ ?_)
      | (with_reducible refine LeO.bind ?_ (fun _ => ?_))
      | exact ih0 _ _ _ _ _ _ _ _ _
      | exact ih1 _ _ _ _ _ _ _ _ _ _
      | exact ih2 _ _ _ _ _ _ _
      | exact ih3 _ _ _ _ _ _ _ _
      | exact ih4 _ _ _ _ _ _ _ _ _ _ _ _ _
      | exact ih5 _ _ _ _ _ _ _ _
      | exact ih6 _ _ _ _ _ _ _ _
      | exact FrameCutsRest.mono _ _ _ _ _ _ _ _
      | exact frame_Put.mono _ _
      | exact frame_Scan.mono _ _
      | exact heliographlaw05_awake.mono _
      | exact heliographlaw05_same.mono _ _ _
      | exact LeO.none _
      | refine LeO.ite ?_ ?_
      | refine LeO.bind ?_ (fun _ => ?_)
    · intro y0 y1 y2 y3 y4 y5 y6 y7
      unfold heliographlaw05_FrameCuts.l1
      repeat' first
      | (with_reducible exact ih0 _ _ _ _ _ _ _ _ _)
      | (with_reducible exact ih1 _ _ _ _ _ _ _ _ _ _)
      | (with_reducible exact ih2 _ _ _ _ _ _ _)
      | (with_reducible exact ih3 _ _ _ _ _ _ _ _)
      | (with_reducible exact ih4 _ _ _ _ _ _ _ _ _ _ _ _ _)
      | (with_reducible exact ih5 _ _ _ _ _ _ _ _)
      | (with_reducible exact ih6 _ _ _ _ _ _ _ _)
      | (with_reducible exact FrameCutsRest.mono _ _ _ _ _ _ _ _)
      | (with_reducible exact frame_Put.mono _ _)
      | (with_reducible exact frame_Scan.mono _ _)
      | (with_reducible exact heliographlaw05_awake.mono _)
      | (with_reducible exact heliographlaw05_same.mono _ _ _)
      | (with_reducible exact LeO.refl _)
      | (with_reducible exact LeO.none _)
      | (with_reducible refine LeO.ite ?_ ?_)
      | (with_reducible refine LeO.bind ?_ (fun _ => ?_))
      | exact ih0 _ _ _ _ _ _ _ _ _
      | exact ih1 _ _ _ _ _ _ _ _ _ _
      | exact ih2 _ _ _ _ _ _ _
      | exact ih3 _ _ _ _ _ _ _ _
      | exact ih4 _ _ _ _ _ _ _ _ _ _ _ _ _
      | exact ih5 _ _ _ _ _ _ _ _
      | exact ih6 _ _ _ _ _ _ _ _
      | exact FrameCutsRest.mono _ _ _ _ _ _ _ _
      | exact frame_Put.mono _ _
      | exact frame_Scan.mono _ _
      | exact heliographlaw05_awake.mono _
      | exact heliographlaw05_same.mono _ _ _
      | exact LeO.none _
      | refine LeO.ite ?_ ?_
      | refine LeO.bind ?_ (fun _ => ?_)
theorem heliographlaw05_FrameCuts.mono : ∀ a0 a1 a2 k, LeO (heliographlaw05_FrameCuts.f k a0 a1 a2) (heliographlaw05_FrameCuts.f (k + 1) a0 a1 a2) := by
  intro a0 a1 a2 k
  obtain ⟨ih0, ih1, ih2, ih3, ih4, ih5, ih6⟩ := heliographlaw05_FrameCuts.mono_l k
  unfold heliographlaw05_FrameCuts.f
  repeat' first
      | (with_reducible exact ih0 _ _ _ _ _ _ _ _ _)
      | (with_reducible exact ih1 _ _ _ _ _ _ _ _ _ _)
      | (with_reducible exact ih2 _ _ _ _ _ _ _)
      | (with_reducible exact ih3 _ _ _ _ _ _ _ _)
      | (with_reducible exact ih4 _ _ _ _ _ _ _ _ _ _ _ _ _)
      | (with_reducible exact ih5 _ _ _ _ _ _ _ _)
      | (with_reducible exact ih6 _ _ _ _ _ _ _ _)
      | (with_reducible exact FrameCutsRest.mono _ _ _ _ _ _ _ _)
      | (with_reducible exact frame_Put.mono _ _)
      | (with_reducible exact frame_Scan.mono _ _)
      | (with_reducible exact heliographlaw05_awake.mono _)
      | (with_reducible exact heliographlaw05_same.mono _ _ _)
      | (with_reducible exact LeO.refl _)
      | (with_reducible exact LeO.none _)
      | (with_reducible refine LeO.ite ?_ ?_)
      | (with_reducible refine LeO.bind ?_ (fun _ => ?_))
      | exact ih0 _ _ _ _ _ _ _ _ _
      | exact ih1 _ _ _ _ _ _ _ _ _ _
      | exact ih2 _ _ _ _ _ _ _
      | exact ih3 _ _ _ _ _ _ _ _
      | exact ih4 _ _ _ _ _ _ _ _ _ _ _ _ _
      | exact ih5 _ _ _ _ _ _ _ _
      | exact ih6 _ _ _ _ _ _ _ _
      | exact FrameCutsRest.mono _ _ _ _ _ _ _ _
      | exact frame_Put.mono _ _
      | exact frame_Scan.mono _ _
      | exact heliographlaw05_awake.mono _
      | exact heliographlaw05_same.mono _ _ _
      | exact LeO.none _
      | refine LeO.ite ?_ ?_
      | refine LeO.bind ?_ (fun _ => ?_)
theorem heliographlaw05_FrameCuts.j6_true {k : Nat} {x2 : Int} {x7 : Bool} {x8 : List ByteArray} {x9 : ByteArray} {x10 : List Int} {x16 : Int} {x17 : Int} (h : heliographlaw05_FrameCuts.j6 k x2 x7 x8 x9 x10 x16 x17 true = some true) : False := by
  cases k <;> simp [heliographlaw05_FrameCuts.j6] at h
set_option maxHeartbeats 8000000 in
set_option maxRecDepth 100000 in
theorem heliographlaw05_FrameCuts.calls (k : Nat) (A0 : Option Addr) (c0 : Nat) (l0 : List ByteArray) (a1 : Int) (a2 : Int) (_r : Bool) (w : World) (hr0 : Kd.C Kd.string w A0 l0.length l0) (hc0 : l0.length ≤ c0) (hT : TabIn w) (h : heliographlaw05_FrameCuts.f k l0 a1 a2 = some true) :
    Calls Tryd.prog 13 #[.slice A0 l0.length c0, .int .i64 a1, .int .u8 a2] w fun e w' => e = .returned (.bool true) ∧ Below w.heap.size w w' := by
  have HTB := Aside0.mk hT
  clear hT
  have HR0 := Aside0.mk hr0
  have HC0 := Aside0.mk hc0
  clear hr0 hc0
  have HB := Aside0.mk (Below.refl w.heap.size w)
  have H : ((heliographlaw05_awake.f k).bind fun t385 => (heliographlaw05_FrameCuts.l0 k l0 a1 a2 t385 ([] : List ByteArray) (⟨#[]⟩ : ByteArray) ([] : List Int) ([] : List Int) 0)) = some true := h
  clear h
  replace H := Option.bind_eq_some_iff.mp H
  obtain ⟨t385, A40, H⟩ := H
  replace H : (heliographlaw05_FrameCuts.l0 k l0 a1 a2 t385 ([] : List ByteArray) (⟨#[]⟩ : ByteArray) ([] : List Int) ([] : List Int) 0) = some true := H
  have A4 := Aside0.mk A40
  clear A40
  have H' := Aside0.mk H
  clear H
  go_enter Tryd.func13, Tryd.ntmps13
  go_wp2_with (first | ((with_reducible refine gate_callee (f := 24) rfl ?_); refine goesL_ (some 29) rfl rfl Tryd.func24 (by kernel_rfl) rfl #[] rfl (by (try simp only [List.map_toArray, List.map_cons, List.map_nil]); first | done | rfl | (simp only [List.length_drop, List.length_take]; rfl)) ?_; (with_reducible refine (heliographlaw05_awake.calls k  t385 _ ?side1 A4.out).mono ?_); (case side1 => exact TabIn.below HTB.out (by repeat (first | (with_reducible first | exact HB.out | apply below_alloc | apply pw_below_drewN | apply below_drew1) | exact HB.out))); rintro e w5 ⟨rfl, hb⟩; refine ⟨_, rfl, ?_⟩; have n0_ := Aside0.mk (below_step (by repeat (first | (with_reducible first | exact HB.out | apply below_alloc | apply pw_below_drewN | apply below_drew1) | exact HB.out)) hb); clear HB; have HB := n0_; clear n0_; (try clear hb); (try clear hb2); (try clear hk); (try clear hi)))
  go_loopg [8, 9, 10, 11, 12] k (fun kq v8 v9 v10 v11 v12 w' => ∃ (x8_1 : List ByteArray) (x9_1 : ByteArray) (x10_1 : List Int) (x11_1 : List Int) (x12_1 : Int), v9 = .string x9_1 ∧ v12 = .int .i64 x12_1 ∧ Aside0 (heliographlaw05_FrameCuts.l0 kq l0 a1 a2 t385 x8_1 x9_1 x10_1 x11_1 x12_1 = some true) ∧ Aside0 (kq ≤ k) ∧ Aside0 (Kd.R Kd.string 9 w' w.heap.size (fun _ => True) v8 x8_1) ∧ Aside0 (Kd.R (Kd.int .i64) 3 w' w.heap.size (fun k_ => some k_ ≠ (v11 : Value).ownBlock) v10 x10_1) ∧ Aside0 (Kd.R (Kd.int .i64) 3 w' w.heap.size (fun k_ => some k_ ≠ (v10 : Value).ownBlock) v11 x11_1) ∧ Aside0 (Below w.heap.size w w'))
  case atStart => exact ⟨(([] : List ByteArray)), ((⟨#[]⟩ : ByteArray)), (([] : List Int)), (([] : List Int)), (0), (by first | rfl | (simp; done) | (simp [*]; done)), (by first | rfl | (simp; done) | (simp [*]; done)), H', ⟨Nat.le_refl _⟩, ⟨by first | exact Kd.R_nil _ _ _ _ _ | exact Kd.N_nil _ _ _ _ _ | exact Kd.V_nil _ _ _ _ _ | exact Kd.Q_nil _ _ _ _ _ | exact Kd.S_nil _ _ _ _ _⟩, ⟨by first | exact Kd.R_nil _ _ _ _ _ | exact Kd.N_nil _ _ _ _ _ | exact Kd.V_nil _ _ _ _ _ | exact Kd.Q_nil _ _ _ _ _ | exact Kd.S_nil _ _ _ _ _⟩, ⟨by first | exact Kd.R_nil _ _ _ _ _ | exact Kd.N_nil _ _ _ _ _ | exact Kd.V_nil _ _ _ _ _ | exact Kd.Q_nil _ _ _ _ _ | exact Kd.S_nil _ _ _ _ _⟩, ⟨by repeat (first | (with_reducible first | exact HB.out | apply below_alloc | apply pw_below_drewN | apply below_drew1) | exact HB.out)⟩⟩
  case round =>
    clear H'
    try clear c1
    try clear c2
    try clear p2
    obtain ⟨x8_1, x9_1, x10_1, x11_1, x12_1, rfl, rfl, HA, HK1, HO_8, HO_10, HO_11, HB⟩ := hrel
    cases gk with
    | zero => exact absurd HA.out (by simp [heliographlaw05_FrameCuts.l0])
    | succ k1 =>
      have H := HA.out
      clear HA
      simp only [heliographlaw05_FrameCuts.l0] at H
      have HC6 := Aside0.mk H
      clear H
      go_upto_region 7 with (fail)
      go_cut [37] (fun v37 wc => ∃ (kq : Nat) (x37_5 : Bool), v37 = .bool x37_5 ∧ Aside0 (heliographlaw05_FrameCuts.j1 kq l0 a1 a2 t385 x8_1 x9_1 x10_1 x11_1 x12_1 x37_5 = some true) ∧ Aside0 (kq ≤ k1) ∧ Aside0 (Kd.R Kd.string 9 wc w.heap.size (fun _ => True) u8 x8_1) ∧ Aside0 (Kd.R (Kd.int .i64) 3 wc w.heap.size (fun k_ => some k_ ≠ (u11 : Value).ownBlock) u10 x10_1) ∧ Aside0 (Kd.R (Kd.int .i64) 3 wc w.heap.size (fun k_ => some k_ ≠ (u10 : Value).ownBlock) u11 x11_1) ∧ Aside0 (Below w.heap.size w wc))
      case first =>
        have H := HC6.out
        clear HC6
        by_cases c7 : x12_1 < (l0.length : Int)
        · rw [if_pos c7] at H
          have c7b0 : decide (x12_1 < (l0.length : Int)) = true := decide_eq_true c7
          clear c7
          (first | rw [c7b0] | (simp only [i64_w, i32_w]; rw [c7b0]) | skip)
          have H' := Aside0.mk H
          clear H
          go_wp2
          go_meet
          case rel => exact ⟨_, (decide (x12_1 < 20)), (by first | rfl | (simp; done) | (simp [*]; done)), H', ⟨by have := HK1.out; first | omega | exact Nat.le_refl _⟩, ⟨by (with_reducible repeat (first | apply Kd.R_alloc | apply Kd.R_drewN | apply Kd.R_drew)); exact HO_8.out⟩, ⟨by (with_reducible repeat (first | apply Kd.R_alloc | apply Kd.R_drewN | apply Kd.R_drew)); exact HO_10.out⟩, ⟨by (with_reducible repeat (first | apply Kd.R_alloc | apply Kd.R_drewN | apply Kd.R_drew)); exact HO_11.out⟩, ⟨by repeat (first | (with_reducible first | exact HB.out | apply below_alloc | apply pw_below_drewN | apply below_drew1) | exact HB.out)⟩⟩
        · rw [if_neg c7] at H
          have c7b0 : decide (x12_1 < (l0.length : Int)) = false := decide_eq_false c7
          clear c7
          (first | rw [c7b0] | (simp only [i64_w, i32_w]; rw [c7b0]) | skip)
          have H' := Aside0.mk H
          clear H
          go_wp2
          go_meet
          case rel => exact ⟨_, (false), (by first | rfl | (simp; done) | (simp [*]; done)), H', ⟨by have := HK1.out; first | omega | exact Nat.le_refl _⟩, ⟨by (with_reducible repeat (first | apply Kd.R_alloc | apply Kd.R_drewN | apply Kd.R_drew)); exact HO_8.out⟩, ⟨by (with_reducible repeat (first | apply Kd.R_alloc | apply Kd.R_drewN | apply Kd.R_drew)); exact HO_10.out⟩, ⟨by (with_reducible repeat (first | apply Kd.R_alloc | apply Kd.R_drewN | apply Kd.R_drew)); exact HO_11.out⟩, ⟨by repeat (first | (with_reducible first | exact HB.out | apply below_alloc | apply pw_below_drewN | apply below_drew1) | exact HB.out)⟩⟩
      case rest =>
        clear HC6
        try clear c1
        try clear c2
        try clear p2
        try clear c7
        try clear c7b0
        try clear p2
        obtain ⟨kq, x37_5, rfl, HA, HJ5, HO_8, HO_10, HO_11, HB⟩ := hcut
        cases kq with
        | zero => exact absurd HA.out (by simp [heliographlaw05_FrameCuts.j1])
        | succ kj5 =>
          have H := HA.out
          clear HA
          simp only [heliographlaw05_FrameCuts.j1] at H
          by_cases c8 : x37_5 = true
          · subst c8
            have H1 : (if 0 ≤ x12_1 then (if x12_1 < (l0.length : Int) then ((heliographlaw05_short.f (rdOf ByteArray.empty l0 x12_1) 100).bind fun t387 => ((frame_Put.f kj5 t387).bind fun bt388 => (if x10_1.length < 17592186044416 then (if x8_1.length < 8796093022208 then (if x9_1.size + bt388.1.size ≤ 9223372036854775807 then (if x11_1.length < 17592186044416 then (heliographlaw05_FrameCuts.l0 kj5 l0 a1 a2 t385 (x8_1 ++ [t387]) (x9_1 ++ bt388.1) (x10_1 ++ [(x9_1.size : Int)]) (x11_1 ++ [((x9_1.size : Int) + (bt388.1.size : Int))]) (wrap64 (x12_1 + 1))) else (none)) else (none)) else (none)) else (none)))) else (none)) else (none)) = some true := by rw [if_pos rfl] at H; exact H
            clear H
            have H := H1
            clear H1
            by_cases c9 : 0 ≤ x12_1
            · rw [if_pos c9] at H
              have c9b0 : decide (0 ≤ x12_1) = true := decide_eq_true c9
              clear c9
              by_cases c10 : x12_1 < (l0.length : Int)
              · rw [if_pos c10] at H
                have c10b0 : decide (x12_1 < (l0.length : Int)) = true := decide_eq_true c10
                clear c10
                replace H := Option.bind_eq_some_iff.mp H
                obtain ⟨t387, A110, H⟩ := H
                replace H : ((frame_Put.f kj5 t387).bind fun bt388 => (if x10_1.length < 17592186044416 then (if x8_1.length < 8796093022208 then (if x9_1.size + bt388.1.size ≤ 9223372036854775807 then (if x11_1.length < 17592186044416 then (heliographlaw05_FrameCuts.l0 kj5 l0 a1 a2 t385 (x8_1 ++ [t387]) (x9_1 ++ bt388.1) (x10_1 ++ [(x9_1.size : Int)]) (x11_1 ++ [((x9_1.size : Int) + (bt388.1.size : Int))]) (wrap64 (x12_1 + 1))) else (none)) else (none)) else (none)) else (none))) = some true := H
                have A11 := Aside0.mk A110
                clear A110
                replace H := Option.bind_eq_some_iff.mp H
                obtain ⟨⟨t388, t389⟩, A120, H⟩ := H
                replace H : (if x10_1.length < 17592186044416 then (if x8_1.length < 8796093022208 then (if x9_1.size + t388.size ≤ 9223372036854775807 then (if x11_1.length < 17592186044416 then (heliographlaw05_FrameCuts.l0 kj5 l0 a1 a2 t385 (x8_1 ++ [t387]) (x9_1 ++ t388) (x10_1 ++ [(x9_1.size : Int)]) (x11_1 ++ [((x9_1.size : Int) + (t388.size : Int))]) (wrap64 (x12_1 + 1))) else (none)) else (none)) else (none)) else (none)) = some true := H
                have A12 := Aside0.mk A120
                clear A120
                by_cases c13 : x10_1.length < 17592186044416
                · rw [if_pos c13] at H
                  have LMc13 := Aside0.mk c13
                  clear c13
                  obtain ⟨y390, hy390⟩ : ∃ y_ : List Int, y_ = (x10_1 ++ [(x9_1.size : Int)]) := ⟨_, rfl⟩
                  replace H : (if x8_1.length < 8796093022208 then (if x9_1.size + t388.size ≤ 9223372036854775807 then (if x11_1.length < 17592186044416 then (heliographlaw05_FrameCuts.l0 kj5 l0 a1 a2 t385 (x8_1 ++ [t387]) (x9_1 ++ t388) y390 (x11_1 ++ [((x9_1.size : Int) + (t388.size : Int))]) (wrap64 (x12_1 + 1))) else (none)) else (none)) else (none)) = some true := by first | (rw [hy390]; with_reducible exact H) | (have H2_ := (Option.bind_some _ _).symm.trans H; rw [hy390]; with_reducible exact H2_) | (have H2_ := (Option.bind_some _ _).symm.trans H; with_reducible exact H2_) | with_reducible exact H | (rw [hy390]; exact H) | exact H
                  have Ny390 := Aside0.mk hy390
                  clear hy390
                  by_cases c14 : x8_1.length < 8796093022208
                  · rw [if_pos c14] at H
                    have LMc14 := Aside0.mk c14
                    clear c14
                    obtain ⟨y393, hy393⟩ : ∃ y_ : List ByteArray, y_ = (x8_1 ++ [t387]) := ⟨_, rfl⟩
                    replace H : (if x9_1.size + t388.size ≤ 9223372036854775807 then (if x11_1.length < 17592186044416 then (heliographlaw05_FrameCuts.l0 kj5 l0 a1 a2 t385 y393 (x9_1 ++ t388) y390 (x11_1 ++ [((x9_1.size : Int) + (t388.size : Int))]) (wrap64 (x12_1 + 1))) else (none)) else (none)) = some true := by first | (rw [hy393]; with_reducible exact H) | (have H2_ := (Option.bind_some _ _).symm.trans H; rw [hy393]; with_reducible exact H2_) | (have H2_ := (Option.bind_some _ _).symm.trans H; with_reducible exact H2_) | with_reducible exact H | (rw [hy393]; exact H) | exact H
                    have Ny393 := Aside0.mk hy393
                    clear hy393
                    by_cases c15 : x9_1.size + t388.size ≤ 9223372036854775807
                    · rw [if_pos c15] at H
                      have c15b0 := eq_true c15
                      have c15b1 : decide (x9_1.size + t388.size ≤ 9223372036854775807) = true := decide_eq_true c15
                      try have c15b2 : (9223372036854775807 < x9_1.size + t388.size) = False := eq_false (Nat.not_lt.2 c15)
                      by_cases c16 : x11_1.length < 17592186044416
                      · rw [if_pos c16] at H
                        have LMc16 := Aside0.mk c16
                        clear c16
                        obtain ⟨y396, hy396⟩ : ∃ y_ : List Int, y_ = (x11_1 ++ [((x9_1.size : Int) + (t388.size : Int))]) := ⟨_, rfl⟩
                        replace H : (heliographlaw05_FrameCuts.l0 kj5 l0 a1 a2 t385 y393 (x9_1 ++ t388) y390 y396 (wrap64 (x12_1 + 1))) = some true := by first | (rw [hy396]; with_reducible exact H) | (have H2_ := (Option.bind_some _ _).symm.trans H; rw [hy396]; with_reducible exact H2_) | (have H2_ := (Option.bind_some _ _).symm.trans H; with_reducible exact H2_) | with_reducible exact H | (rw [hy396]; exact H) | exact H
                        have Ny396 := Aside0.mk hy396
                        clear hy396
                        have H' := Aside0.mk H
                        clear H
                        have p386 : 0 ≤ (x12_1 : Int) := of_decide_eq_true (by first | (with_reducible assumption) | assumption)
                        have q386 : x12_1 < (l0.length : Int) := of_decide_eq_true (by first | (with_reducible assumption) | assumption)
                        obtain ⟨ad386, e386, hx386_0⟩ := Kd.at_string HR0.out x12_1 p386 q386
                        cases e386
                        replace hx386_0 := (HB.out.cell (World.block_lt_of_cell? w _ hx386_0)).trans hx386_0
                        replace p386 := eq_true p386
                        replace q386 := eq_true q386
                        go_wp2_with (first | ((with_reducible refine gate_callee (f := 26) rfl ?_); refine goesL_ (some 44) rfl rfl Tryd.func26 (by kernel_rfl) rfl #[.string (rdOf ByteArray.empty l0 x12_1), .int .i64 100] rfl (by (try simp only [List.map_toArray, List.map_cons, List.map_nil]); first | done | rfl | (simp only [List.length_drop, List.length_take]; rfl)) ?_; (with_reducible refine (heliographlaw05_short.calls (rdOf ByteArray.empty l0 x12_1) 100 t387 _ A11.out).mono ?_); rintro e w' ⟨rfl, ⟨nd, rfl⟩⟩; refine ⟨_, rfl, ?_⟩) | ((with_reducible refine gate_callee (f := 37) rfl ?_); refine goesL_ (some 47) rfl rfl Tryd.func37 (by kernel_rfl) rfl #[.string t387] rfl (by (try simp only [List.map_toArray, List.map_cons, List.map_nil]); first | done | rfl | (simp only [List.length_drop, List.length_take]; rfl)) ?_; (with_reducible refine (frame_Put.calls kj5 t387 t388 t389 _ ?side1 A12.out).mono ?_); (case side1 => exact TabIn.below HTB.out (by repeat (first | (with_reducible first | exact HB.out | apply below_alloc | apply pw_below_drewN | apply below_drew1) | exact HB.out))); rintro e w17 ⟨rfl, hb⟩; refine ⟨_, rfl, ?_⟩; have n0_ := Aside0.mk (Kd.R_below (by (with_reducible repeat (first | apply Kd.R_alloc | apply Kd.R_drewN | apply Kd.R_drew)); exact HO_8.out) hb); have n1_ := Aside0.mk (Kd.R_below (by (with_reducible repeat (first | apply Kd.R_alloc | apply Kd.R_drewN | apply Kd.R_drew)); exact HO_10.out) hb); have n2_ := Aside0.mk (Kd.R_below (by (with_reducible repeat (first | apply Kd.R_alloc | apply Kd.R_drewN | apply Kd.R_drew)); exact HO_11.out) hb); have n3_ := Aside0.mk (below_step (by repeat (first | (with_reducible first | exact HB.out | apply below_alloc | apply pw_below_drewN | apply below_drew1) | exact HB.out)) hb); clear HO_8; clear HO_10; clear HO_11; clear HB; have HO_8 := n0_; have HO_10 := n1_; have HO_11 := n2_; have HB := n3_; clear n0_ n1_ n2_ n3_; (try clear hb); (try clear hb2); (try clear hk); (try clear hi)) | ((with_reducible refine gate_builtin (b := .append) (xs := #[.tmp 50, .tmp 53]) rfl ?_); at_builtin; refine Kd.R_append (Kd.int .i64) (w0 := w) w.heap.size rfl (.tmp 50) (.tmp 53) 37 3 (.int .i64 0) 8 rfl Tryd.underlying37 info3 rfl (by decide) (by omega) u10 x10_1 (x9_1.size : Int) [.int .i64 (x9_1.size : Int)] (fun k_ => some k_ ≠ (u11 : Value).ownBlock) (fun _ => False) rfl rfl ?aP (fun _ hk => hk.elim) ?aF ?aO ?aB ?aS ?aL ?_; (case aP => exact rfl); (case aB => exact (by repeat (first | (with_reducible first | exact HB.out | apply below_alloc | apply pw_below_drewN | apply below_drew1) | exact HB.out))); (case aF => exact (fun k_ hk => Kd.fresh' (Kd.R_lt (by (with_reducible repeat (first | apply Kd.R_alloc | apply Kd.R_drewN | apply Kd.R_drew)); exact HO_11.out)) k_ hk)); (case aO => exact (by (with_reducible repeat (first | apply Kd.R_alloc | apply Kd.R_drewN | apply Kd.R_drew)); exact HO_10.out)); (case aS => exact (below_size (by repeat (first | (with_reducible first | exact HB.out | apply below_alloc | apply pw_below_drewN | apply below_drew1) | exact HB.out)))); (case aL => have := LMc13.out; omega); intro v391 w18 ho hb hg hat; rw [← Ny390.out] at ho; have n0_ := Aside0.mk (Kd.R_over' (by (with_reducible repeat (first | apply Kd.R_alloc | apply Kd.R_drewN | apply Kd.R_drew)); exact HO_8.out) (Kd.R_typed (by (with_reducible repeat (first | apply Kd.R_alloc | apply Kd.R_drewN | apply Kd.R_drew)); exact HO_10.out)) (by decide) hg); have n1_ := Aside0.mk (Kd.R_after (ok := (fun _ => True)) (by (with_reducible repeat (first | apply Kd.R_alloc | apply Kd.R_drewN | apply Kd.R_drew)); exact Kd.R_mono HO_11.out (fun _ hk => ⟨trivial, hk⟩)) hg hat); have n2_ := Aside0.mk (hb); have n3_ := Aside0.mk (ho); clear HO_8; clear HO_11; clear HB; clear HO_10; have HO_8 := n0_; have HO_11 := n1_; have HB := n2_; have HO392 := n3_; clear n0_ n1_ n2_ n3_; clear ho hb hg hat) | ((with_reducible refine gate_builtin (b := .append) (xs := #[.tmp 55, .tmp 57]) rfl ?_); at_builtin; refine Kd.R_append Kd.string (w0 := w) w.heap.size rfl (.tmp 55) (.tmp 57) 36 9 (.string ⟨#[]⟩) 16 rfl Tryd.underlying36 info9 rfl (by decide) (by omega) u8 x8_1 t387 [.string t387] (fun _ => True) (fun _ => False) rfl rfl ?aP (fun _ hk => hk.elim) ?aF ?aO ?aB ?aS ?aL ?_; (case aP => exact rfl); (case aB => exact (by repeat (first | (with_reducible first | exact HB.out | apply below_alloc | apply pw_below_drewN | apply below_drew1) | exact HB.out))); (case aF => exact (fun _ _ => trivial)); (case aO => exact (by (with_reducible repeat (first | apply Kd.R_alloc | apply Kd.R_drewN | apply Kd.R_drew)); exact HO_8.out)); (case aS => exact (below_size (by repeat (first | (with_reducible first | exact HB.out | apply below_alloc | apply pw_below_drewN | apply below_drew1) | exact HB.out)))); (case aL => have := LMc14.out; omega); intro v394 w19 ho hb hg hat; rw [← Ny393.out] at ho; have n0_ := Aside0.mk (Kd.R_over' (by (with_reducible repeat (first | apply Kd.R_alloc | apply Kd.R_drewN | apply Kd.R_drew)); exact HO_11.out) (Kd.R_typed (by (with_reducible repeat (first | apply Kd.R_alloc | apply Kd.R_drewN | apply Kd.R_drew)); exact HO_8.out)) (by decide) hg); have n1_ := Aside0.mk (Kd.R_over' (by (with_reducible repeat (first | apply Kd.R_alloc | apply Kd.R_drewN | apply Kd.R_drew)); exact HO392.out) (Kd.R_typed (by (with_reducible repeat (first | apply Kd.R_alloc | apply Kd.R_drewN | apply Kd.R_drew)); exact HO_8.out)) (by decide) hg); have n2_ := Aside0.mk (hb); have n3_ := Aside0.mk (ho); clear HO_11; clear HO392; clear HB; clear HO_8; have HO_11 := n0_; have HO392 := n1_; have HB := n2_; have HO395 := n3_; clear n0_ n1_ n2_ n3_; clear ho hb hg hat) | ((with_reducible refine gate_builtin (b := .append) (xs := #[.tmp 62, .tmp 65]) rfl ?_); at_builtin; refine Kd.R_append (Kd.int .i64) (w0 := w) w.heap.size rfl (.tmp 62) (.tmp 65) 37 3 (.int .i64 0) 8 rfl Tryd.underlying37 info3 rfl (by decide) (by omega) u11 x11_1 ((x9_1.size : Int) + (t388.size : Int)) [.int .i64 ((x9_1.size : Int) + (t388.size : Int))] (fun k_ => some k_ ≠ (v391 : Value).ownBlock) (fun _ => False) rfl rfl ?aP (fun _ hk => hk.elim) ?aF ?aO ?aB ?aS ?aL ?_; (case aP => exact rfl); (case aB => exact (by repeat (first | (with_reducible first | exact HB.out | apply below_alloc | apply pw_below_drewN | apply below_drew1) | exact HB.out))); (case aF => exact (fun k_ hk => Kd.fresh' (Kd.R_lt (by (with_reducible repeat (first | apply Kd.R_alloc | apply Kd.R_drewN | apply Kd.R_drew)); exact HO392.out)) k_ hk)); (case aO => exact (by (with_reducible repeat (first | apply Kd.R_alloc | apply Kd.R_drewN | apply Kd.R_drew)); exact Kd.R_mono HO_11.out (fun _ hk => hk.2))); (case aS => exact (below_size (by repeat (first | (with_reducible first | exact HB.out | apply below_alloc | apply pw_below_drewN | apply below_drew1) | exact HB.out)))); (case aL => have := LMc16.out; omega); intro v397 w20 ho hb hg hat; rw [← Ny396.out] at ho; have n0_ := Aside0.mk (Kd.R_after (ok := (fun _ => True)) (by (with_reducible repeat (first | apply Kd.R_alloc | apply Kd.R_drewN | apply Kd.R_drew)); exact Kd.R_mono HO392.out (fun _ hk => ⟨trivial, hk⟩)) hg hat); have n1_ := Aside0.mk (Kd.R_over' (by (with_reducible repeat (first | apply Kd.R_alloc | apply Kd.R_drewN | apply Kd.R_drew)); exact HO395.out) (Kd.R_typed (by (with_reducible repeat (first | apply Kd.R_alloc | apply Kd.R_drewN | apply Kd.R_drew)); exact HO_11.out)) (by decide) hg); have n2_ := Aside0.mk (hb); have n3_ := Aside0.mk (ho); clear HO392; clear HO395; clear HB; clear HO_11; have HO392 := n0_; have HO395 := n1_; have HB := n2_; have HO398 := n3_; clear n0_ n1_ n2_ n3_; clear ho hb hg hat))
                        go_roundg kj5
                        case measure => have := HK1.out; have := HJ5.out; omega
                        case rel => exact ⟨(y393), (x9_1 ++ t388), (y390), (y396), (wrap64 (x12_1 + 1)), (by first | rfl | (simp; done) | (simp [*]; done)), (by first | rfl | (simp; done) | (simp [*]; done)), H', ⟨by have := HK1.out; have := HJ5.out; omega⟩, ⟨by (with_reducible repeat (first | apply Kd.R_alloc | apply Kd.R_drewN | apply Kd.R_drew)); exact HO395.out⟩, ⟨by (with_reducible repeat (first | apply Kd.R_alloc | apply Kd.R_drewN | apply Kd.R_drew)); exact Kd.R_mono HO392.out (fun _ hk => hk.2)⟩, ⟨by (with_reducible repeat (first | apply Kd.R_alloc | apply Kd.R_drewN | apply Kd.R_drew)); exact HO398.out⟩, ⟨by repeat (first | (with_reducible first | exact HB.out | apply below_alloc | apply pw_below_drewN | apply below_drew1) | exact HB.out)⟩⟩
                      · rw [if_neg c16] at H
                        exact absurd H (by simp)
                    · rw [if_neg c15] at H
                      exact absurd H (by simp)
                  · rw [if_neg c14] at H
                    exact absurd H (by simp)
                · rw [if_neg c13] at H
                  exact absurd H (by simp)
              · rw [if_neg c10] at H
                exact absurd H (by simp)
            · rw [if_neg c9] at H
              exact absurd H (by simp)
          · replace c8 := Bool.eq_false_iff.mpr c8
            subst c8
            have H1 : (if a1 < 0 then (heliographlaw05_FrameCuts.j2 kj5 a2 t385 x8_1 x9_1 x10_1 x11_1 (wrap64 (-(wrap64 (a1 + 1))))) else (heliographlaw05_FrameCuts.j2 kj5 a2 t385 x8_1 x9_1 x10_1 x11_1 a1)) = some true := by rw [if_neg (show ¬ (false = true) by decide)] at H; exact H
            clear H
            have H := H1
            clear H1
            have HC21 := Aside0.mk H
            clear H
            go_upto_if 69 with (fail)
            go_cut [16] (fun v16 wc => ∃ (kq : Nat) (x16_20 : Int), v16 = .int .i64 x16_20 ∧ Aside0 (heliographlaw05_FrameCuts.j2 kq a2 t385 x8_1 x9_1 x10_1 x11_1 x16_20 = some true) ∧ Aside0 (kq ≤ kj5) ∧ Aside0 (Kd.R Kd.string 9 wc w.heap.size (fun _ => True) u8 x8_1) ∧ Aside0 (Kd.R (Kd.int .i64) 3 wc w.heap.size (fun k_ => some k_ ≠ (u11 : Value).ownBlock) u10 x10_1) ∧ Aside0 (Kd.R (Kd.int .i64) 3 wc w.heap.size (fun k_ => some k_ ≠ (u10 : Value).ownBlock) u11 x11_1) ∧ Aside0 (Below w.heap.size w wc))
            case first =>
              have H := HC21.out
              clear HC21
              by_cases c22 : a1 < 0
              · rw [if_pos c22] at H
                have c22b0 : decide (a1 < 0) = true := decide_eq_true c22
                clear c22
                (first | rw [c22b0] | (simp only [i64_w, i32_w]; rw [c22b0]) | skip)
                have H' := Aside0.mk H
                clear H
                go_wp2
                go_meet
                case rel => exact ⟨_, (wrap64 (-(wrap64 (a1 + 1)))), (by first | rfl | (simp; done) | (simp [*]; done)), H', ⟨by have := HK1.out; have := HJ5.out; first | omega | exact Nat.le_refl _⟩, ⟨by (with_reducible repeat (first | apply Kd.R_alloc | apply Kd.R_drewN | apply Kd.R_drew)); exact HO_8.out⟩, ⟨by (with_reducible repeat (first | apply Kd.R_alloc | apply Kd.R_drewN | apply Kd.R_drew)); exact HO_10.out⟩, ⟨by (with_reducible repeat (first | apply Kd.R_alloc | apply Kd.R_drewN | apply Kd.R_drew)); exact HO_11.out⟩, ⟨by repeat (first | (with_reducible first | exact HB.out | apply below_alloc | apply pw_below_drewN | apply below_drew1) | exact HB.out)⟩⟩
              · rw [if_neg c22] at H
                have c22b0 : decide (a1 < 0) = false := decide_eq_false c22
                clear c22
                (first | rw [c22b0] | (simp only [i64_w, i32_w]; rw [c22b0]) | skip)
                have H' := Aside0.mk H
                clear H
                go_wp2
                go_meet
                case rel => exact ⟨_, (a1), (by first | rfl | (simp; done) | (simp [*]; done)), H', ⟨by have := HK1.out; have := HJ5.out; first | omega | exact Nat.le_refl _⟩, ⟨by (with_reducible repeat (first | apply Kd.R_alloc | apply Kd.R_drewN | apply Kd.R_drew)); exact HO_8.out⟩, ⟨by (with_reducible repeat (first | apply Kd.R_alloc | apply Kd.R_drewN | apply Kd.R_drew)); exact HO_10.out⟩, ⟨by (with_reducible repeat (first | apply Kd.R_alloc | apply Kd.R_drewN | apply Kd.R_drew)); exact HO_11.out⟩, ⟨by repeat (first | (with_reducible first | exact HB.out | apply below_alloc | apply pw_below_drewN | apply below_drew1) | exact HB.out)⟩⟩
            case rest =>
              clear HC21
              try clear c1
              try clear c2
              try clear p2
              try clear c3
              try clear p3
              try clear q3
              try clear hx3
              try clear p6
              try clear c7
              try clear c7b0
              try clear c8
              try clear c9
              try clear c9b0
              try clear c10
              try clear c10b0
              try clear c13
              try clear c14
              try clear c15
              try clear c15b0
              try clear c15b1
              try clear c15b2
              try clear c16
              try clear c22
              try clear c22b0
              try clear hx386_0
              try clear p2
              try clear p386
              try clear q386
              obtain ⟨kq, x16_20, rfl, HA, HJ20, HO_8, HO_10, HO_11, HB⟩ := hcut
              cases kq with
              | zero => exact absurd HA.out (by simp [heliographlaw05_FrameCuts.j2])
              | succ kj20 =>
                have H := HA.out
                clear HA
                simp only [heliographlaw05_FrameCuts.j2] at H
                by_cases c23 : (wrap64 ((x9_1.size : Int) + 1)) = 0
                · rw [if_pos c23] at H
                  exact absurd H (by simp)
                · rw [if_neg c23] at H
                  have c23b0 : ((wrap64 ((x9_1.size : Int) + 1)) == 0) = false := beq_eq_false_iff_ne.mpr c23
                  have c23b1 : ((wrap64 ((x9_1.size : Int) + 1)) != 0) = true := bne_iff_ne.mpr c23
                  have HC24 := Aside0.mk H
                  clear H
                  go_upto_block 2 with (fail)
                  go_cut [17] (fun v17 wc => ∃ (kq : Nat) (x17_23 : Int), v17 = .int .i64 x17_23 ∧ Aside0 (heliographlaw05_FrameCuts.j4 kq a2 t385 x8_1 x9_1 x10_1 x11_1 (Int.tmod x16_20 (wrap64 ((x9_1.size : Int) + 1))) x17_23 = some true) ∧ Aside0 (kq ≤ kj20) ∧ Aside0 (Kd.R Kd.string 9 wc w.heap.size (fun _ => True) u8 x8_1) ∧ Aside0 (Kd.R (Kd.int .i64) 3 wc w.heap.size (fun k_ => some k_ ≠ (u11 : Value).ownBlock) u10 x10_1) ∧ Aside0 (Kd.R (Kd.int .i64) 3 wc w.heap.size (fun k_ => some k_ ≠ (u10 : Value).ownBlock) u11 x11_1) ∧ Aside0 (Below w.heap.size w wc))
                  case first =>
                    have H := HC24.out
                    clear HC24
                    have H' := Aside0.mk H
                    clear H
                    go_wp2
                    go_loopg [17] kj20 (fun kq v17 w' => ∃ (x17_4 : Int), v17 = .int .i64 x17_4 ∧ Aside0 (heliographlaw05_FrameCuts.l1 kq a2 t385 x8_1 x9_1 x10_1 x11_1 (Int.tmod x16_20 (wrap64 ((x9_1.size : Int) + 1))) x17_4 = some true) ∧ Aside0 (kq ≤ kj20) ∧ Aside0 (Kd.R Kd.string 9 w' w.heap.size (fun _ => True) u8 x8_1) ∧ Aside0 (Kd.R (Kd.int .i64) 3 w' w.heap.size (fun k_ => some k_ ≠ (u11 : Value).ownBlock) u10 x10_1) ∧ Aside0 (Kd.R (Kd.int .i64) 3 w' w.heap.size (fun k_ => some k_ ≠ (u10 : Value).ownBlock) u11 x11_1) ∧ Aside0 (Below w.heap.size w w'))
                    case atStart => exact ⟨(0), (by first | rfl | (simp; done) | (simp [*]; done)), H', ⟨Nat.le_refl _⟩, ⟨by (with_reducible repeat (first | apply Kd.R_alloc | apply Kd.R_drewN | apply Kd.R_drew)); exact HO_8.out⟩, ⟨by (with_reducible repeat (first | apply Kd.R_alloc | apply Kd.R_drewN | apply Kd.R_drew)); exact HO_10.out⟩, ⟨by (with_reducible repeat (first | apply Kd.R_alloc | apply Kd.R_drewN | apply Kd.R_drew)); exact HO_11.out⟩, ⟨by repeat (first | (with_reducible first | exact HB.out | apply below_alloc | apply pw_below_drewN | apply below_drew1) | exact HB.out)⟩⟩
                    case round =>
                      clear H'
                      try clear c1
                      try clear c2
                      try clear p2
                      try clear c3
                      try clear p3
                      try clear q3
                      try clear hx3
                      try clear p6
                      try clear c7
                      try clear c7b0
                      try clear c8
                      try clear c9
                      try clear c9b0
                      try clear c10
                      try clear c10b0
                      try clear c13
                      try clear c14
                      try clear c15
                      try clear c15b0
                      try clear c15b1
                      try clear c15b2
                      try clear c16
                      try clear c22
                      try clear c22b0
                      try clear c23
                      try clear c23b0
                      try clear c23b1
                      try clear c24
                      try clear hx386_0
                      try clear p2
                      try clear p3
                      try clear p386
                      try clear p6
                      try clear q3
                      try clear q386
                      obtain ⟨x17_4, rfl, HA, HK4, HO_8, HO_10, HO_11, HB⟩ := hrel
                      cases gk with
                      | zero => exact absurd HA.out (by simp [heliographlaw05_FrameCuts.l1])
                      | succ k4 =>
                        have H := HA.out
                        clear HA
                        simp only [heliographlaw05_FrameCuts.l1] at H
                        by_cases c25 : x17_4 < (x8_1.length : Int)
                        · rw [if_pos c25] at H
                          have c25b0 : decide (x17_4 < (x8_1.length : Int)) = true := decide_eq_true c25
                          clear c25
                          (first | rw [c25b0] | (simp only [i64_w, i32_w]; rw [c25b0]) | skip)
                          by_cases c26 : 0 ≤ x17_4
                          · rw [if_pos c26] at H
                            have c26b0 : decide (0 ≤ x17_4) = true := decide_eq_true c26
                            clear c26
                            by_cases c27 : x17_4 < (x11_1.length : Int)
                            · rw [if_pos c27] at H
                              have c27b0 : decide (x17_4 < (x11_1.length : Int)) = true := decide_eq_true c27
                              clear c27
                              by_cases c28 : (rd x11_1 x17_4) ≤ (Int.tmod x16_20 (wrap64 ((x9_1.size : Int) + 1)))
                              · rw [if_pos c28] at H
                                have c28b0 : decide ((rd x11_1 x17_4) ≤ (Int.tmod x16_20 (wrap64 ((x9_1.size : Int) + 1)))) = true := decide_eq_true c28
                                clear c28
                                have H' := Aside0.mk H
                                clear H
                                obtain ⟨Ao29, co29, eo29⟩ := Kd.R_slice HO_8.out
                                subst eo29
                                obtain ⟨Ao30, co30, eo30⟩ := Kd.R_slice HO_11.out
                                subst eo30
                                have p399 : 0 ≤ (x17_4 : Int) := of_decide_eq_true (by first | (with_reducible assumption) | assumption)
                                have q399 : x17_4 < (x11_1.length : Int) := of_decide_eq_true (by first | (with_reducible assumption) | assumption)
                                obtain ⟨ad399, e399, hx399_0⟩ := Kd.at_int (Kd.R_reads' HO_11.out).2.2 x17_4 p399 q399
                                cases e399
                                replace p399 := eq_true p399
                                replace q399 := eq_true q399
                                go_wp2
                                go_roundg k4
                                case measure => have := HK1.out; have := HJ5.out; have := HJ20.out; have := HK4.out; omega
                                case rel => exact ⟨(wrap64 (x17_4 + 1)), (by first | rfl | (simp; done) | (simp [*]; done)), H', ⟨by have := HK1.out; have := HJ5.out; have := HJ20.out; have := HK4.out; omega⟩, ⟨by (with_reducible repeat (first | apply Kd.R_alloc | apply Kd.R_drewN | apply Kd.R_drew)); exact HO_8.out⟩, ⟨by (with_reducible repeat (first | apply Kd.R_alloc | apply Kd.R_drewN | apply Kd.R_drew)); exact HO_10.out⟩, ⟨by (with_reducible repeat (first | apply Kd.R_alloc | apply Kd.R_drewN | apply Kd.R_drew)); exact HO_11.out⟩, ⟨by repeat (first | (with_reducible first | exact HB.out | apply below_alloc | apply pw_below_drewN | apply below_drew1) | exact HB.out)⟩⟩
                              · rw [if_neg c28] at H
                                have c28b0 : decide ((rd x11_1 x17_4) ≤ (Int.tmod x16_20 (wrap64 ((x9_1.size : Int) + 1)))) = false := decide_eq_false c28
                                clear c28
                                have H' := Aside0.mk H
                                clear H
                                obtain ⟨Ao31, co31, eo31⟩ := Kd.R_slice HO_8.out
                                subst eo31
                                obtain ⟨Ao32, co32, eo32⟩ := Kd.R_slice HO_11.out
                                subst eo32
                                have p399 : 0 ≤ (x17_4 : Int) := of_decide_eq_true (by first | (with_reducible assumption) | assumption)
                                have q399 : x17_4 < (x11_1.length : Int) := of_decide_eq_true (by first | (with_reducible assumption) | assumption)
                                obtain ⟨ad399, e399, hx399_0⟩ := Kd.at_int (Kd.R_reads' HO_11.out).2.2 x17_4 p399 q399
                                cases e399
                                replace p399 := eq_true p399
                                replace q399 := eq_true q399
                                go_wp2
                                go_meet
                                case rel => exact ⟨_, (x17_4), (by first | rfl | (simp; done) | (simp [*]; done)), H', ⟨by have := HK1.out; have := HJ5.out; have := HJ20.out; have := HK4.out; first | omega | exact Nat.le_refl _⟩, ⟨by (with_reducible repeat (first | apply Kd.R_alloc | apply Kd.R_drewN | apply Kd.R_drew)); exact HO_8.out⟩, ⟨by (with_reducible repeat (first | apply Kd.R_alloc | apply Kd.R_drewN | apply Kd.R_drew)); exact HO_10.out⟩, ⟨by (with_reducible repeat (first | apply Kd.R_alloc | apply Kd.R_drewN | apply Kd.R_drew)); exact HO_11.out⟩, ⟨by repeat (first | (with_reducible first | exact HB.out | apply below_alloc | apply pw_below_drewN | apply below_drew1) | exact HB.out)⟩⟩
                            · rw [if_neg c27] at H
                              exact absurd H (by simp)
                          · rw [if_neg c26] at H
                            exact absurd H (by simp)
                        · rw [if_neg c25] at H
                          have c25b0 : decide (x17_4 < (x8_1.length : Int)) = false := decide_eq_false c25
                          clear c25
                          (first | rw [c25b0] | (simp only [i64_w, i32_w]; rw [c25b0]) | skip)
                          have H' := Aside0.mk H
                          clear H
                          obtain ⟨Ao33, co33, eo33⟩ := Kd.R_slice HO_8.out
                          subst eo33
                          go_wp2
                          go_meet
                          case rel => exact ⟨_, (x17_4), (by first | rfl | (simp; done) | (simp [*]; done)), H', ⟨by have := HK1.out; have := HJ5.out; have := HJ20.out; have := HK4.out; first | omega | exact Nat.le_refl _⟩, ⟨by (with_reducible repeat (first | apply Kd.R_alloc | apply Kd.R_drewN | apply Kd.R_drew)); exact HO_8.out⟩, ⟨by (with_reducible repeat (first | apply Kd.R_alloc | apply Kd.R_drewN | apply Kd.R_drew)); exact HO_10.out⟩, ⟨by (with_reducible repeat (first | apply Kd.R_alloc | apply Kd.R_drewN | apply Kd.R_drew)); exact HO_11.out⟩, ⟨by repeat (first | (with_reducible first | exact HB.out | apply below_alloc | apply pw_below_drewN | apply below_drew1) | exact HB.out)⟩⟩
                  case rest =>
                    clear HC24
                    try clear c1
                    try clear c2
                    try clear p2
                    try clear c3
                    try clear p3
                    try clear q3
                    try clear hx3
                    try clear p6
                    try clear c7
                    try clear c7b0
                    try clear c8
                    try clear c9
                    try clear c9b0
                    try clear c10
                    try clear c10b0
                    try clear c13
                    try clear c14
                    try clear c15
                    try clear c15b0
                    try clear c15b1
                    try clear c15b2
                    try clear c16
                    try clear c22
                    try clear c22b0
                    try clear c23
                    try clear c23b0
                    try clear c23b1
                    try clear c24
                    try clear c25
                    try clear c25b0
                    try clear c26
                    try clear c26b0
                    try clear c27
                    try clear c27b0
                    try clear c28
                    try clear c28b0
                    try clear hx386_0
                    try clear hx399_0
                    try clear p2
                    try clear p3
                    try clear p386
                    try clear p399
                    try clear p6
                    try clear q3
                    try clear q386
                    try clear q399
                    obtain ⟨kq, x17_23, rfl, HA, HJ23, HO_8, HO_10, HO_11, HB⟩ := hcut
                    cases kq with
                    | zero => exact absurd HA.out (by simp [heliographlaw05_FrameCuts.j4])
                    | succ kj23 =>
                      have H := HA.out
                      clear HA
                      simp only [heliographlaw05_FrameCuts.j4] at H
                      obtain ⟨ji34, hji34⟩ : ∃ j_ : Int, (Int.tmod x16_20 (wrap64 ((x9_1.size : Int) + 1))) = j_ := ⟨_, rfl⟩
                      replace H : (if 0 ≤ (ji34) then (if (ji34) ≤ (x9_1.size : Int) then ((frame_Scan.f kj23 (x9_1.extract 0 ((ji34) : Int).toNat)).bind fun bt400 => (if 0 ≤ x17_23 then (if x17_23 ≤ (x8_1.length : Int) then ((heliographlaw05_same.f kj23 bt400.1 (x8_1.take (x17_23 : Int).toNat)).bind fun t409 => (heliographlaw05_FrameCuts.l2 kj23 a2 t385 x8_1 x9_1 x10_1 x11_1 (ji34) x17_23 bt400.2.1 bt400.2.2 t409 ((ji34) == 0) 0)) else (none)) else (none))) else (none)) else (none)) = some true := by first | (rw [hji34] at H; exact H) | (simp only [hji34] at H ⊢; exact H)
                      by_cases c35 : 0 ≤ (ji34)
                      · rw [if_pos c35] at H
                        have c35b0 := eq_true c35
                        have c35b1 : decide (0 ≤ (ji34)) = true := decide_eq_true c35
                        clear c35
                        by_cases c36 : (ji34) ≤ (x9_1.size : Int)
                        · rw [if_pos c36] at H
                          have c36b0 := eq_true c36
                          have c36b1 : decide ((ji34) ≤ (x9_1.size : Int)) = true := decide_eq_true c36
                          clear c36
                          replace H := Option.bind_eq_some_iff.mp H
                          obtain ⟨⟨t400, t401, t402⟩, A370, H⟩ := H
                          replace H : (if 0 ≤ x17_23 then (if x17_23 ≤ (x8_1.length : Int) then ((heliographlaw05_same.f kj23 t400 (x8_1.take (x17_23 : Int).toNat)).bind fun t409 => (heliographlaw05_FrameCuts.l2 kj23 a2 t385 x8_1 x9_1 x10_1 x11_1 (ji34) x17_23 t401 t402 t409 ((ji34) == 0) 0)) else (none)) else (none)) = some true := H
                          have A37 := Aside0.mk A370
                          clear A370
                          by_cases c38 : 0 ≤ x17_23
                          · rw [if_pos c38] at H
                            have c38b0 := eq_true c38
                            have c38b1 : decide (0 ≤ x17_23) = true := decide_eq_true c38
                            clear c38
                            by_cases c39 : x17_23 ≤ (x8_1.length : Int)
                            · rw [if_pos c39] at H
                              have c39b0 := eq_true c39
                              have c39b1 : decide (x17_23 ≤ (x8_1.length : Int)) = true := decide_eq_true c39
                              clear c39
                              obtain ⟨y405, hy405⟩ : ∃ y_ : List ByteArray, y_ = (x8_1.take (x17_23 : Int).toNat) := ⟨_, rfl⟩
                              replace H : ((heliographlaw05_same.f kj23 t400 y405).bind fun t409 => (heliographlaw05_FrameCuts.l2 kj23 a2 t385 x8_1 x9_1 x10_1 x11_1 (ji34) x17_23 t401 t402 t409 ((ji34) == 0) 0)) = some true := by first | (rw [hy405]; with_reducible exact H) | (have H2_ := (Option.bind_some _ _).symm.trans H; rw [hy405]; with_reducible exact H2_) | (have H2_ := (Option.bind_some _ _).symm.trans H; with_reducible exact H2_) | with_reducible exact H | (rw [hy405]; exact H) | exact H
                              have Ny405 := Aside0.mk hy405
                              clear hy405
                              replace H := Option.bind_eq_some_iff.mp H
                              obtain ⟨t409, A400, H⟩ := H
                              replace H : (heliographlaw05_FrameCuts.l2 kj23 a2 t385 x8_1 x9_1 x10_1 x11_1 (ji34) x17_23 t401 t402 t409 ((ji34) == 0) 0) = some true := H
                              have A40 := Aside0.mk A400
                              clear A400
                              have H' := Aside0.mk H
                              clear H
                              go_wp2_with (first | ((with_reducible refine gate_callee (f := 42) rfl ?_); refine goesL_ (some 96) rfl rfl Tryd.func42 (by kernel_rfl) rfl #[.string (x9_1.extract 0 ((ji34) : Int).toNat)] rfl (by (try simp only [List.map_toArray, List.map_cons, List.map_nil]); first | done | (simp only [hji34]; rfl) | rfl | (simp only [List.length_drop, List.length_take]; rfl)) ?_; (with_reducible refine (frame_Scan.calls kj23 (x9_1.extract 0 ((ji34) : Int).toNat) t400 t401 t402 _ ?side1 A37.out).mono ?_); (case side1 => exact TabIn.below HTB.out (by repeat (first | (with_reducible first | exact HB.out | apply below_alloc | apply pw_below_drewN | apply below_drew1) | exact HB.out))); rintro e w41 ⟨v403, rfl, ho0, hb⟩; refine ⟨_, rfl, ?_⟩; have n0_ := Aside0.mk (Kd.R_elder' (by (with_reducible repeat (first | apply Kd.R_alloc | apply Kd.R_drewN | apply Kd.R_drew)); exact HO_8.out) (Kd.R_base ho0) hb); have n1_ := Aside0.mk (Kd.R_below (by (with_reducible repeat (first | apply Kd.R_alloc | apply Kd.R_drewN | apply Kd.R_drew)); exact HO_10.out) hb); have n2_ := Aside0.mk (Kd.R_below (by (with_reducible repeat (first | apply Kd.R_alloc | apply Kd.R_drewN | apply Kd.R_drew)); exact HO_11.out) hb); have n3_ := Aside0.mk (Kd.R_lower (Kd.R_new' ho0 (Kd.R_lt (by (with_reducible repeat (first | apply Kd.R_alloc | apply Kd.R_drewN | apply Kd.R_drew)); exact HO_8.out))) (below_size (by repeat (first | (with_reducible first | exact HB.out | apply below_alloc | apply pw_below_drewN | apply below_drew1) | exact HB.out)))); have n4_ := Aside0.mk (below_step (by repeat (first | (with_reducible first | exact HB.out | apply below_alloc | apply pw_below_drewN | apply below_drew1) | exact HB.out)) hb); clear HO_8; clear HO_10; clear HO_11; clear HB; have HO_8 := n0_; have HO_10 := n1_; have HO_11 := n2_; have HO404 := n3_; have HB := n4_; clear n0_ n1_ n2_ n3_ n4_; (try clear hb); (try clear hb2); (try clear hk); (try clear hi); (try clear ho0); obtain ⟨Ao43, co43, eo43⟩ := Kd.R_slice HO_8.out; subst eo43; have q42 : (x17_23 : Int) ≤ ((x8_1.length : Int) : Int) := of_decide_eq_true (by first | (with_reducible assumption) | assumption); obtain ⟨i042, hi042, _, hsz42, _⟩ := info_parts info9; have hroom42 : x8_1.length ≤ co43 := (Kd.R_reads' HO_8.out).2.1; have hC42 : Kd.C Kd.string _ Ao43 x8_1.length x8_1 := (Kd.R_reads' HO_8.out).2.2; have hcut42 := cut_to (P := Tryd.prog) 36 9 .i64 Tryd.underlying36 hi042 Ao43 x8_1.length co43 x17_23 (of_decide_eq_true (by first | (with_reducible assumption) | assumption)) q42 hroom42; have hr42 := Kd.C_take (m := (x17_23 : Int).toNat) hC42 (by omega); have hy42 : y405.length = (x17_23 : Int).toNat := (by rw [Ny405.out, List.length_take]; omega); rw [← Ny405.out] at hr42; rw [← hy42] at hcut42; have HR408 := Aside0.mk hr42; have HC408 := Aside0.mk (show y405.length ≤ co43 from by omega); clear hr42 hC42 hroom42 hi042 hsz42; have KY42 := Aside0.mk hy42; clear hy42; have KL42 := Aside0.mk (show (x17_23 : Int).toNat ≤ x8_1.length from by omega); replace q42 := eq_true q42; obtain ⟨Ao44, co44, eo44⟩ := Kd.R_slice HO404.out; subst eo44) | ((with_reducible refine gate_callee (f := 44) rfl ?_); refine goesL_ (some 104) rfl rfl Tryd.func44 (by kernel_rfl) rfl #[.slice Ao44 t400.length co44, .slice Ao43 y405.length co43] rfl (by (try simp only [List.map_toArray, List.map_cons, List.map_nil]); first | done | rfl | (simp only [List.length_drop, List.length_take]; rfl)) ?_; (with_reducible refine (heliographlaw05_same.calls kj23 _ _ t400 _ _ y405 t409 _ ?side1 ?side2 ?side3 ?side4 A40.out).mono ?_); (case side1 => repeat (first | exact (Kd.R_reads' HO404.out).2.2 | (with_reducible refine Kd.C_alloc ?_ _) | (with_reducible refine Kd.C_drewN ?_ _) | (with_reducible refine Kd.C_drew ?_))); (case side2 => exact (Kd.R_reads' HO404.out).2.1); (case side3 => repeat (first | exact (by repeat (first | (with_reducible exact HR408.out) | (with_reducible refine Kd.C_alloc ?_ _) | (with_reducible refine Kd.C_drewN ?_ _) | (with_reducible refine Kd.C_drew ?_) | exact HR408.out)) | (with_reducible refine Kd.C_alloc ?_ _) | (with_reducible refine Kd.C_drewN ?_ _) | (with_reducible refine Kd.C_drew ?_))); (case side4 => exact HC408.out); rintro e w' ⟨rfl, ⟨nd, rfl⟩⟩; refine ⟨_, rfl, ?_⟩))
                              go_loopg [22, 23] kj23 (fun kq v22 v23 w' => ∃ (x22_5 : Bool) (x23_5 : Int), v22 = .bool x22_5 ∧ v23 = .int .i64 x23_5 ∧ Aside0 (heliographlaw05_FrameCuts.l2 kq a2 t385 x8_1 x9_1 x10_1 x11_1 (ji34) x17_23 t401 t402 t409 x22_5 x23_5 = some true) ∧ Aside0 (kq ≤ kj23) ∧ Aside0 (Kd.R Kd.string 9 w' w.heap.size (fun _ => True) (.slice Ao43 x8_1.length co43) x8_1) ∧ Aside0 (Kd.R (Kd.int .i64) 3 w' w.heap.size (fun k_ => some k_ ≠ (u11 : Value).ownBlock) u10 x10_1) ∧ Aside0 (Kd.R (Kd.int .i64) 3 w' w.heap.size (fun k_ => some k_ ≠ (u10 : Value).ownBlock) u11 x11_1) ∧ Aside0 (Kd.C Kd.string w' Ao43 y405.length y405) ∧ Aside0 (Below w.heap.size w w'))
                              case atStart => exact ⟨(((ji34) == 0)), (0), (by first | rfl | (simp; done) | (simp only [← hji34] <;> (first | rfl | simp)) | (simp [*]; done)), (by first | rfl | (simp; done) | (simp [*]; done)), H', ⟨Nat.le_refl _⟩, ⟨by (with_reducible repeat (first | apply Kd.R_alloc | apply Kd.R_drewN | apply Kd.R_drew)); exact Kd.R_mono HO_8.out (fun _ hk => trivial)⟩, ⟨by (with_reducible repeat (first | apply Kd.R_alloc | apply Kd.R_drewN | apply Kd.R_drew)); exact HO_10.out⟩, ⟨by (with_reducible repeat (first | apply Kd.R_alloc | apply Kd.R_drewN | apply Kd.R_drew)); exact HO_11.out⟩, ⟨by repeat (first | (with_reducible exact HR408.out) | (with_reducible refine Kd.C_alloc ?_ _) | (with_reducible refine Kd.C_drewN ?_ _) | (with_reducible refine Kd.C_drew ?_) | exact HR408.out)⟩, ⟨by repeat (first | (with_reducible first | exact HB.out | apply below_alloc | apply pw_below_drewN | apply below_drew1) | exact HB.out)⟩⟩
                              case round =>
                                clear H'
                                try clear c1
                                try clear c2
                                try clear p2
                                try clear c3
                                try clear p3
                                try clear q3
                                try clear hx3
                                try clear c4
                                try clear q4
                                try clear p6
                                try clear c7
                                try clear c7b0
                                try clear c8
                                try clear c9
                                try clear c9b0
                                try clear c10
                                try clear c10b0
                                try clear c13
                                try clear c14
                                try clear c15
                                try clear c15b0
                                try clear c15b1
                                try clear c15b2
                                try clear c16
                                try clear c22
                                try clear c22b0
                                try clear c23
                                try clear c23b0
                                try clear c23b1
                                try clear c24
                                try clear c25
                                try clear c25b0
                                try clear c26
                                try clear c26b0
                                try clear c27
                                try clear c27b0
                                try clear c28
                                try clear c28b0
                                try clear c35
                                try clear c35b0
                                try clear c35b1
                                try clear c36
                                try clear c36b0
                                try clear c36b1
                                try clear c37
                                try clear c38
                                try clear c38b0
                                try clear c38b1
                                try clear p38
                                try clear q38
                                try clear hx38
                                try clear c39
                                try clear c39b0
                                try clear c39b1
                                try clear p39
                                try clear q39
                                try clear hx39
                                try clear c42
                                try clear q42
                                try clear c44
                                try clear hx386_0
                                try clear hx399_0
                                try clear p2
                                try clear p3
                                try clear p386
                                try clear p399
                                try clear p6
                                try clear q3
                                try clear q386
                                try clear q399
                                try clear q42
                                obtain ⟨x22_5, x23_5, rfl, rfl, HA, HK5, HO_8, HO_10, HO_11, HR408, HB⟩ := hrel
                                cases gk with
                                | zero => exact absurd HA.out (by simp [heliographlaw05_FrameCuts.l2])
                                | succ k5 =>
                                  have H := HA.out
                                  clear HA
                                  simp only [heliographlaw05_FrameCuts.l2] at H
                                  by_cases c45 : x23_5 < (x11_1.length : Int)
                                  · rw [if_pos c45] at H
                                    have c45b0 : decide (x23_5 < (x11_1.length : Int)) = true := decide_eq_true c45
                                    clear c45
                                    by_cases c46 : x22_5 = true
                                    · subst c46
                                      have H1 : (heliographlaw05_FrameCuts.l2 k5 a2 t385 x8_1 x9_1 x10_1 x11_1 (ji34) x17_23 t401 t402 t409 true (wrap64 (x23_5 + 1))) = some true := by rw [if_pos rfl] at H; exact H
                                      clear H
                                      have H := H1
                                      clear H1
                                      have H' := Aside0.mk H
                                      clear H
                                      obtain ⟨Ao47, co47, eo47⟩ := Kd.R_slice HO_11.out
                                      subst eo47
                                      go_wp2
                                      go_roundg k5
                                      case measure => have := HK1.out; have := HJ5.out; have := HJ20.out; have := HJ23.out; have := HK5.out; omega
                                      case rel => exact ⟨(true), (wrap64 (x23_5 + 1)), (by first | rfl | (simp; done) | (simp [*]; done)), (by first | rfl | (simp; done) | (simp [*]; done)), H', ⟨by have := HK1.out; have := HJ5.out; have := HJ20.out; have := HJ23.out; have := HK5.out; omega⟩, ⟨by (with_reducible repeat (first | apply Kd.R_alloc | apply Kd.R_drewN | apply Kd.R_drew)); exact HO_8.out⟩, ⟨by (with_reducible repeat (first | apply Kd.R_alloc | apply Kd.R_drewN | apply Kd.R_drew)); exact HO_10.out⟩, ⟨by (with_reducible repeat (first | apply Kd.R_alloc | apply Kd.R_drewN | apply Kd.R_drew)); exact HO_11.out⟩, ⟨by repeat (first | (with_reducible exact HR408.out) | (with_reducible refine Kd.C_alloc ?_ _) | (with_reducible refine Kd.C_drewN ?_ _) | (with_reducible refine Kd.C_drew ?_) | exact HR408.out)⟩, ⟨by repeat (first | (with_reducible first | exact HB.out | apply below_alloc | apply pw_below_drewN | apply below_drew1) | exact HB.out)⟩⟩
                                    · replace c46 := Bool.eq_false_iff.mpr c46
                                      subst c46
                                      have H1 : (if 0 ≤ x23_5 then (heliographlaw05_FrameCuts.l2 k5 a2 t385 x8_1 x9_1 x10_1 x11_1 (ji34) x17_23 t401 t402 t409 ((rd x11_1 x23_5) == (ji34)) (wrap64 (x23_5 + 1))) else (none)) = some true := by rw [if_neg (show ¬ (false = true) by decide)] at H; exact H
                                      clear H
                                      have H := H1
                                      clear H1
                                      by_cases c48 : 0 ≤ x23_5
                                      · rw [if_pos c48] at H
                                        have c48b0 : decide (0 ≤ x23_5) = true := decide_eq_true c48
                                        clear c48
                                        have H' := Aside0.mk H
                                        clear H
                                        obtain ⟨Ao49, co49, eo49⟩ := Kd.R_slice HO_11.out
                                        subst eo49
                                        have p410 : 0 ≤ (x23_5 : Int) := of_decide_eq_true (by first | (with_reducible assumption) | assumption)
                                        have q410 : x23_5 < (x11_1.length : Int) := of_decide_eq_true (by first | (with_reducible assumption) | assumption)
                                        obtain ⟨ad410, e410, hx410_0⟩ := Kd.at_int (Kd.R_reads' HO_11.out).2.2 x23_5 p410 q410
                                        cases e410
                                        replace p410 := eq_true p410
                                        replace q410 := eq_true q410
                                        go_wp2
                                        go_roundg k5
                                        case measure => have := HK1.out; have := HJ5.out; have := HJ20.out; have := HJ23.out; have := HK5.out; omega
                                        case rel => exact ⟨(((rd x11_1 x23_5) == (ji34))), (wrap64 (x23_5 + 1)), (by first | rfl | (simp; done) | (simp only [← hji34] <;> (first | rfl | simp)) | (simp [*]; done)), (by first | rfl | (simp; done) | (simp [*]; done)), H', ⟨by have := HK1.out; have := HJ5.out; have := HJ20.out; have := HJ23.out; have := HK5.out; omega⟩, ⟨by (with_reducible repeat (first | apply Kd.R_alloc | apply Kd.R_drewN | apply Kd.R_drew)); exact HO_8.out⟩, ⟨by (with_reducible repeat (first | apply Kd.R_alloc | apply Kd.R_drewN | apply Kd.R_drew)); exact HO_10.out⟩, ⟨by (with_reducible repeat (first | apply Kd.R_alloc | apply Kd.R_drewN | apply Kd.R_drew)); exact HO_11.out⟩, ⟨by repeat (first | (with_reducible exact HR408.out) | (with_reducible refine Kd.C_alloc ?_ _) | (with_reducible refine Kd.C_drewN ?_ _) | (with_reducible refine Kd.C_drew ?_) | exact HR408.out)⟩, ⟨by repeat (first | (with_reducible first | exact HB.out | apply below_alloc | apply pw_below_drewN | apply below_drew1) | exact HB.out)⟩⟩
                                      · rw [if_neg c48] at H
                                        exact absurd H (by simp)
                                  · rw [if_neg c45] at H
                                    have c45b0 : decide (x23_5 < (x11_1.length : Int)) = false := decide_eq_false c45
                                    clear c45
                                    have HC50 := Aside0.mk H
                                    clear H
                                    obtain ⟨Ao51, co51, eo51⟩ := Kd.R_slice HO_11.out
                                    subst eo51
                                    go_upto_region 29 with (fail)
                                    go_cut [143] (fun v143 wc => ∃ (kq : Nat) (x143_49 : Bool), v143 = .bool x143_49 ∧ Aside0 (heliographlaw05_FrameCuts.j6 kq a2 t385 x8_1 x9_1 x10_1 (ji34) x17_23 x143_49 = some true) ∧ Aside0 (kq ≤ k5) ∧ Aside0 (Kd.R Kd.string 9 wc w.heap.size (fun _ => True) (.slice Ao43 x8_1.length co43) x8_1) ∧ Aside0 (Kd.R (Kd.int .i64) 3 wc w.heap.size (fun _ => True) u10 x10_1) ∧ Aside0 (Kd.C Kd.string wc Ao43 y405.length y405) ∧ Aside0 (Below w.heap.size w wc))
                                    case first =>
                                      have H := HC50.out
                                      clear HC50
                                      by_cases c52 : t409 = true
                                      · subst c52
                                        have H1 : (if x22_5 = true then (if t402 = 1 then (heliographlaw05_FrameCuts.j6 k5 a2 t385 x8_1 x9_1 x10_1 (ji34) x17_23 (decide (t401 > (ji34)))) else (heliographlaw05_FrameCuts.j6 k5 a2 t385 x8_1 x9_1 x10_1 (ji34) x17_23 true)) else (if t402 = 2 then (heliographlaw05_FrameCuts.j6 k5 a2 t385 x8_1 x9_1 x10_1 (ji34) x17_23 (decide (t401 > (ji34)))) else (heliographlaw05_FrameCuts.j6 k5 a2 t385 x8_1 x9_1 x10_1 (ji34) x17_23 true))) = some true := by rw [if_pos rfl] at H; exact H
                                        clear H
                                        have H := H1
                                        clear H1
                                        by_cases c53 : x22_5 = true
                                        · subst c53
                                          have H1 : (if t402 = 1 then (heliographlaw05_FrameCuts.j6 k5 a2 t385 x8_1 x9_1 x10_1 (ji34) x17_23 (decide (t401 > (ji34)))) else (heliographlaw05_FrameCuts.j6 k5 a2 t385 x8_1 x9_1 x10_1 (ji34) x17_23 true)) = some true := by rw [if_pos rfl] at H; exact H
                                          clear H
                                          have H := H1
                                          clear H1
                                          by_cases c54 : t402 = 1
                                          · rw [if_pos c54] at H
                                            have c54b0 : (t402 == 1) = true := beq_iff_eq.mpr c54
                                            have c54b1 : (t402 != 1) = false := bne_eq_false_iff_eq.mpr c54
                                            clear c54
                                            (first | rw [c54b0] | (simp only [i64_w, i32_w]; rw [c54b0]) | skip)
                                            have H' := Aside0.mk H
                                            clear H
                                            go_wp2
                                            go_meet
                                            case rel => exact ⟨_, (decide (t401 > (ji34))), (by first | rfl | (simp; done) | (simp only [← hji34] <;> (first | rfl | simp)) | (simp [*]; done)), H', ⟨by have := HK1.out; have := HJ5.out; have := HJ20.out; have := HJ23.out; have := HK5.out; first | omega | exact Nat.le_refl _⟩, ⟨by (with_reducible repeat (first | apply Kd.R_alloc | apply Kd.R_drewN | apply Kd.R_drew)); exact HO_8.out⟩, ⟨by (with_reducible repeat (first | apply Kd.R_alloc | apply Kd.R_drewN | apply Kd.R_drew)); exact Kd.R_mono HO_10.out (fun _ hk => trivial)⟩, ⟨by repeat (first | (with_reducible exact HR408.out) | (with_reducible refine Kd.C_alloc ?_ _) | (with_reducible refine Kd.C_drewN ?_ _) | (with_reducible refine Kd.C_drew ?_) | exact HR408.out)⟩, ⟨by repeat (first | (with_reducible first | exact HB.out | apply below_alloc | apply pw_below_drewN | apply below_drew1) | exact HB.out)⟩⟩
                                          · rw [if_neg c54] at H
                                            exact (heliographlaw05_FrameCuts.j6_true H).elim
                                        · replace c53 := Bool.eq_false_iff.mpr c53
                                          subst c53
                                          have H1 : (if t402 = 2 then (heliographlaw05_FrameCuts.j6 k5 a2 t385 x8_1 x9_1 x10_1 (ji34) x17_23 (decide (t401 > (ji34)))) else (heliographlaw05_FrameCuts.j6 k5 a2 t385 x8_1 x9_1 x10_1 (ji34) x17_23 true)) = some true := by rw [if_neg (show ¬ (false = true) by decide)] at H; exact H
                                          clear H
                                          have H := H1
                                          clear H1
                                          by_cases c55 : t402 = 2
                                          · rw [if_pos c55] at H
                                            have c55b0 : (t402 == 2) = true := beq_iff_eq.mpr c55
                                            have c55b1 : (t402 != 2) = false := bne_eq_false_iff_eq.mpr c55
                                            clear c55
                                            have H' := Aside0.mk H
                                            clear H
                                            go_wp2
                                            go_meet
                                            case rel => exact ⟨_, (decide (t401 > (ji34))), (by first | rfl | (simp; done) | (simp only [← hji34] <;> (first | rfl | simp)) | (simp [*]; done)), H', ⟨by have := HK1.out; have := HJ5.out; have := HJ20.out; have := HJ23.out; have := HK5.out; first | omega | exact Nat.le_refl _⟩, ⟨by (with_reducible repeat (first | apply Kd.R_alloc | apply Kd.R_drewN | apply Kd.R_drew)); exact HO_8.out⟩, ⟨by (with_reducible repeat (first | apply Kd.R_alloc | apply Kd.R_drewN | apply Kd.R_drew)); exact Kd.R_mono HO_10.out (fun _ hk => trivial)⟩, ⟨by repeat (first | (with_reducible exact HR408.out) | (with_reducible refine Kd.C_alloc ?_ _) | (with_reducible refine Kd.C_drewN ?_ _) | (with_reducible refine Kd.C_drew ?_) | exact HR408.out)⟩, ⟨by repeat (first | (with_reducible first | exact HB.out | apply below_alloc | apply pw_below_drewN | apply below_drew1) | exact HB.out)⟩⟩
                                          · rw [if_neg c55] at H
                                            exact (heliographlaw05_FrameCuts.j6_true H).elim
                                      · replace c52 := Bool.eq_false_iff.mpr c52
                                        subst c52
                                        have H1 : (heliographlaw05_FrameCuts.j6 k5 a2 t385 x8_1 x9_1 x10_1 (ji34) x17_23 true) = some true := by rw [if_neg (show ¬ (false = true) by decide)] at H; exact H
                                        exact (heliographlaw05_FrameCuts.j6_true H1).elim
                                    case rest =>
                                      clear HC50
                                      try clear c1
                                      try clear c2
                                      try clear p2
                                      try clear c3
                                      try clear p3
                                      try clear q3
                                      try clear hx3
                                      try clear c4
                                      try clear p4
                                      try clear q4
                                      try clear hx4
                                      try clear c5
                                      try clear p6
                                      try clear c7
                                      try clear c7b0
                                      try clear c8
                                      try clear c9
                                      try clear c9b0
                                      try clear c10
                                      try clear c10b0
                                      try clear c13
                                      try clear c14
                                      try clear c15
                                      try clear c15b0
                                      try clear c15b1
                                      try clear c15b2
                                      try clear c16
                                      try clear c22
                                      try clear c22b0
                                      try clear c23
                                      try clear c23b0
                                      try clear c23b1
                                      try clear c24
                                      try clear c25
                                      try clear c25b0
                                      try clear c26
                                      try clear c26b0
                                      try clear c27
                                      try clear c27b0
                                      try clear c28
                                      try clear c28b0
                                      try clear c35
                                      try clear c35b0
                                      try clear c35b1
                                      try clear c36
                                      try clear c36b0
                                      try clear c36b1
                                      try clear c37
                                      try clear c38
                                      try clear c38b0
                                      try clear c38b1
                                      try clear p38
                                      try clear q38
                                      try clear hx38
                                      try clear c39
                                      try clear c39b0
                                      try clear c39b1
                                      try clear p39
                                      try clear q39
                                      try clear hx39
                                      try clear p41
                                      try clear q41
                                      try clear hx41
                                      try clear c42
                                      try clear q42
                                      try clear c44
                                      try clear c45
                                      try clear c45b0
                                      try clear c46
                                      try clear c48
                                      try clear c48b0
                                      try clear c52
                                      try clear c53
                                      try clear c54
                                      try clear c54b0
                                      try clear c54b1
                                      try clear c55
                                      try clear c55b0
                                      try clear c55b1
                                      try clear hx386_0
                                      try clear hx399_0
                                      try clear hx410_0
                                      try clear p2
                                      try clear p3
                                      try clear p38
                                      try clear p386
                                      try clear p39
                                      try clear p399
                                      try clear p410
                                      try clear p6
                                      try clear q3
                                      try clear q38
                                      try clear q386
                                      try clear q39
                                      try clear q399
                                      try clear q4
                                      try clear q410
                                      try clear q42
                                      obtain ⟨kq, x143_49, rfl, HA, HJ49, HO_8, HO_10, HR408, HB⟩ := hcut
                                      cases kq with
                                      | zero => exact absurd HA.out (by simp [heliographlaw05_FrameCuts.j6])
                                      | succ kj49 =>
                                        have H := HA.out
                                        clear HA
                                        simp only [heliographlaw05_FrameCuts.j6] at H
                                        by_cases c56 : x143_49 = true
                                        · subst c56
                                          have H1 : (some false) = some true := by rw [if_pos rfl] at H; exact H
                                          clear H
                                          exact absurd H1 (by simp)
                                        · replace c56 := Bool.eq_false_iff.mpr c56
                                          subst c56
                                          have H1 : (if (ji34) = (x9_1.size : Int) then (some t385) else (if a2 = 0 then (some t385) else (if 0 ≤ x17_23 then (if x17_23 < (x10_1.length : Int) then (if (ji34) = (rd x10_1 x17_23) then (some t385) else ((FrameCutsRest.f kj49 x9_1 (ji34) a2 x17_23 x8_1 x10_1 t385).bind fun t412 => (some t412))) else (none)) else (none)))) = some true := by rw [if_neg (show ¬ (false = true) by decide)] at H; exact H
                                          clear H
                                          have H := H1
                                          clear H1
                                          by_cases c57 : (ji34) = (x9_1.size : Int)
                                          · rw [if_pos c57] at H
                                            have c57b0 : ((ji34) == (x9_1.size : Int)) = true := beq_iff_eq.mpr c57
                                            have c57b1 : ((ji34) != (x9_1.size : Int)) = false := bne_eq_false_iff_eq.mpr c57
                                            clear c57
                                            have hrv := Option.some.inj H
                                            go_wp2
                                            go_ret
                                            exact ⟨by first | rfl | (rw [hrv]; done) | (simp [errW_none, errW_some] <;> rfl) | (simp only [← hji34]; first | rfl | (simp [errW_none, errW_some] <;> rfl)) | (simp [*, errW_none, errW_some] <;> rfl), by repeat (first | (with_reducible first | exact HB.out | apply below_alloc | apply pw_below_drewN | apply below_drew1) | exact HB.out)⟩
                                          · rw [if_neg c57] at H
                                            have c57b0 : ((ji34) == (x9_1.size : Int)) = false := beq_eq_false_iff_ne.mpr c57
                                            have c57b1 : ((ji34) != (x9_1.size : Int)) = true := bne_iff_ne.mpr c57
                                            by_cases c58 : a2 = 0
                                            · rw [if_pos c58] at H
                                              have c58b0 : (a2 == 0) = true := beq_iff_eq.mpr c58
                                              have c58b1 : (a2 != 0) = false := bne_eq_false_iff_eq.mpr c58
                                              clear c58
                                              have hrv := Option.some.inj H
                                              go_wp2
                                              go_ret
                                              exact ⟨by first | rfl | (rw [hrv]; done) | (simp [errW_none, errW_some] <;> rfl) | (simp only [← hji34]; first | rfl | (simp [errW_none, errW_some] <;> rfl)) | (simp [*, errW_none, errW_some] <;> rfl), by repeat (first | (with_reducible first | exact HB.out | apply below_alloc | apply pw_below_drewN | apply below_drew1) | exact HB.out)⟩
                                            · rw [if_neg c58] at H
                                              have c58b0 : (a2 == 0) = false := beq_eq_false_iff_ne.mpr c58
                                              have c58b1 : (a2 != 0) = true := bne_iff_ne.mpr c58
                                              by_cases c59 : 0 ≤ x17_23
                                              · rw [if_pos c59] at H
                                                have c59b0 : decide (0 ≤ x17_23) = true := decide_eq_true c59
                                                clear c59
                                                by_cases c60 : x17_23 < (x10_1.length : Int)
                                                · rw [if_pos c60] at H
                                                  have c60b0 : decide (x17_23 < (x10_1.length : Int)) = true := decide_eq_true c60
                                                  clear c60
                                                  by_cases c61 : (ji34) = (rd x10_1 x17_23)
                                                  · rw [if_pos c61] at H
                                                    have c61b0 : ((ji34) == (rd x10_1 x17_23)) = true := beq_iff_eq.mpr c61
                                                    have c61b1 : ((ji34) != (rd x10_1 x17_23)) = false := bne_eq_false_iff_eq.mpr c61
                                                    clear c61
                                                    have hrv := Option.some.inj H
                                                    obtain ⟨Ao62, co62, eo62⟩ := Kd.R_slice HO_10.out
                                                    subst eo62
                                                    have p411 : 0 ≤ (x17_23 : Int) := of_decide_eq_true (by first | (with_reducible assumption) | assumption)
                                                    have q411 : x17_23 < (x10_1.length : Int) := of_decide_eq_true (by first | (with_reducible assumption) | assumption)
                                                    obtain ⟨ad411, e411, hx411_0⟩ := Kd.at_int (Kd.R_reads' HO_10.out).2.2 x17_23 p411 q411
                                                    cases e411
                                                    replace p411 := eq_true p411
                                                    replace q411 := eq_true q411
                                                    go_wp2
                                                    go_ret
                                                    exact ⟨by first | rfl | (rw [hrv]; done) | (simp [errW_none, errW_some] <;> rfl) | (simp only [← hji34]; first | rfl | (simp [errW_none, errW_some] <;> rfl)) | (simp [*, errW_none, errW_some] <;> rfl), by repeat (first | (with_reducible first | exact HB.out | apply below_alloc | apply pw_below_drewN | apply below_drew1) | exact HB.out)⟩
                                                  · rw [if_neg c61] at H
                                                    have c61b0 : ((ji34) == (rd x10_1 x17_23)) = false := beq_eq_false_iff_ne.mpr c61
                                                    have c61b1 : ((ji34) != (rd x10_1 x17_23)) = true := bne_iff_ne.mpr c61
                                                    replace H := Option.bind_eq_some_iff.mp H
                                                    obtain ⟨t412, A630, H⟩ := H
                                                    replace H : (some t412) = some true := H
                                                    have A63 := Aside0.mk A630
                                                    clear A630
                                                    clear H
                                                    clear c61
                                                    obtain ⟨er, eup, n, wh, en, ew, hn, hwst, hwm, x, ex, hx0, hx1, xs, e1, e2⟩ := FrameCutsRest.inv A63.out
                                                    clear A63
                                                    subst er eup
                                                    subst en
                                                    subst ew
                                                    have E1 := Aside0.mk e1
                                                    clear e1
                                                    obtain ⟨Ao64, co64, eo64⟩ := Kd.R_slice HO_10.out
                                                    subst eo64
                                                    have p411 : 0 ≤ ((wh : Int) : Int) := Int.natCast_nonneg _
                                                    have q411 : (wh : Int) < (x10_1.length : Int) := Int.ofNat_lt.2 hwst
                                                    obtain ⟨ad411, e411, hx411_0⟩ := Kd.at_int (Kd.R_reads' HO_10.out).2.2 (wh : Int) p411 q411
                                                    cases e411
                                                    rw [Int.toNat_natCast] at hx411_0
                                                    replace p411 := eq_true p411
                                                    replace q411 := eq_true q411
                                                    have kb := fun W => print_bytes (P := Tryd.prog) 9 32 5 Tryd.underlying9 Tryd.underlying32 Tryd.underlying5 x9_1 W
                                                    have kc := fun W => turn_cell W x9_1 n hn
                                                    have kf := fun W => turn_frozen W x9_1 n hn
                                                    have kk := fun W cap => turn_back W x9_1 n cap hn x hx0 hx1
                                                    have d1 : decide (0 ≤ (n : Int)) = true := decide_eq_true (Int.natCast_nonneg _)
                                                    have d2 : decide ((n : Int) < (x9_1.size : Int)) = true := decide_eq_true (Int.ofNat_lt.2 hn)
                                                    have d3 : (n : Int) < (x9_1.size : Int) := Int.ofNat_lt.2 hn
                                                    have d4 : ((wh : Int) ≤ (x8_1.length : Int)) = True := eq_true (Int.ofNat_le.2 hwm)
                                                    have hy405' := Ny405.out
                                                    rw [Int.toNat_natCast] at hy405'
                                                    rw [← hy405'] at e2
                                                    have E2 := Aside0.mk e2
                                                    clear e2
                                                    have HYY := Aside0.mk hy405'
                                                    clear hy405'
                                                    have HN := Aside0.mk hn
                                                    have HWM := Aside0.mk hwm
                                                    have HX0 := Aside0.mk hx0
                                                    have HX1 := Aside0.mk hx1
                                                    clear hn hwm hx0 hx1 hwst
                                                    go_wp2_with (first
                                                      | (have HBc := Aside0.mk ((bytes_below (Below.refl _ wc) (Nat.le_refl _) 5 x9_1).setCell (p := ⟨wc.heap.size, n, none⟩) (Nat.le_refl _) (.int .u8 x)); have HB5 := Aside0.mk (HB.out.trans (HBc.out.mono HB.out.size)); go_at_call 42; (with_reducible refine (frame_Scan.calls kj49 (turnAt x9_1 n x) xs (rd x10_1 (wh : Int)) 3 _ ?side1 E1.out).mono ?_); (case side1 => exact TabIn.below HTB.out HB5.out); rintro e w6 ⟨vs, rfl, ho0, hb⟩; have HBw := Aside0.mk (HBc.out.trans (hb.mono HBc.out.size)); have HB6 := Aside0.mk (HB.out.trans (HBw.out.mono HB.out.size)); have HOs := Aside0.mk ho0; have HO8' := Aside0.mk (Kd.R_below HO_8.out HBw.out); have HO10' := Aside0.mk (Kd.R_below HO_10.out HBw.out); obtain ⟨As, cs_, es⟩ := Kd.R_slice ho0; subst es; clear ho0 hb; obtain ⟨ad2, e2_, hx2⟩ := Kd.at_int (Kd.R_reads' HO10'.out).2.2 (wh : Int) (of_eq_true p411) (of_eq_true q411); cases e2_; rw [Int.toNat_natCast] at hx2)
                                                      | (have hT := Kd.C_take (m := wh) (Kd.R_reads' HO8'.out).2.2 HWM.out; rw [← HYY.out] at hT; have HT := Aside0.mk hT; clear hT; go_at_call 44; (with_reducible refine (heliographlaw05_same.calls kj49 _ _ xs _ _ y405 true _ ?side1 ?side2 ?side3 ?side4 E2.out).mono ?_); (case side1 => exact (Kd.R_reads' HOs.out).2.2); (case side2 => exact (Kd.R_reads' HOs.out).2.1); (case side3 => exact HT.out); (case side4 => exact HC408.out); rintro e w' ⟨rfl, ⟨nd, rfl⟩⟩))
                                                    go_ret
                                                    exact ⟨rfl, by repeat (first | exact HB6.out | apply pw_below_drewN)⟩
                                                · rw [if_neg c60] at H
                                                  exact absurd H (by simp)
                                              · rw [if_neg c59] at H
                                                exact absurd H (by simp)
                            · rw [if_neg c39] at H
                              exact absurd H (by simp)
                          · rw [if_neg c38] at H
                            exact absurd H (by simp)
                        · rw [if_neg c36] at H
                          exact absurd H (by simp)
                      · rw [if_neg c35] at H
                        exact absurd H (by simp)

end Go.Proofs.YtbanbeaemmlikaaDoor.Px
