/- Written by px.py, a program of this place (it runs the print of the kit with turns of its own): each Go function as a plain Lean function, and the proof that a call of the Go function comes to it. Conditions: none but what each theorem says. -/
import Derived.Test.YtbanbeaemmlikaaDoorPx0
import Derived.Test.YtbanbeaemmlikaaDoorPx9
import Derived.Test.YtbanbeaemmlikaaDoorPx10
import Derived.Test.YtbanbeaemmlikaaDoorPx11
namespace Go.Proofs.YtbanbeaemmlikaaDoor.Px
open Go.RowKit Go.Proofs.YtbanbeaemmlikaaDoorW.PrintWords Go.Proofs.YtbanbeaemmlikaaDoorW.PrintLast Go.Proofs.YtbanbeaemmlikaaDoorW.PrintMore
attribute [local go_sem high] not_u32
attribute [local go_sem] max2_int min2_int max_two min_two max_three min_three max_four min_four   -- for this text's walks alone
set_option linter.unusedVariables false
set_option linter.unusedSimpArgs false

/-! ### heliographlaw05_FramePlays: function 7 -/
mutual
def heliographlaw05_FramePlays.l0 : Nat → List ByteArray → List Int → Bool → ByteArray → Bool → Int → ByteArray → Bool → Option (Bool)
  | 0, _, _, _, _, _, _, _, _ => none
  | k + 1, x0, x1, x5, x7, x8, x9, x267000, x267001 => if x9 < (x0.length : Int) then (heliographlaw05_FramePlays.j1 k x0 x1 x5 x7 x8 x9 (decide (x9 < 40)) x267000 x267001) else (heliographlaw05_FramePlays.j1 k x0 x1 x5 x7 x8 x9 false x267000 x267001)
def heliographlaw05_FramePlays.j1 : Nat → List ByteArray → List Int → Bool → ByteArray → Bool → Int → Bool → ByteArray → Bool → Option (Bool)
  | 0, _, _, _, _, _, _, _, _, _ => none
  | k + 1, x0, x1, x5, x7, x8, x9, x30, x267000, x267001 => if x30 = true then (if 0 ≤ x9 then (if x9 < (x0.length : Int) then ((heliographlaw05_short.f (rdOf ByteArray.empty x0 x9) 400).bind fun t268 => ((frame_Scanner_Feed.f x267000 x267001 t268).bind fun bt269 => (if (bt269.1 == x8) = true then (some false) else (if x8 = true then (heliographlaw05_FramePlays.j2 k x0 x1 x5 x7 x8 x9 bt269.2.1 bt269.2.2) else (if x7.size + t268.size ≤ 9223372036854775807 then (heliographlaw05_FramePlays.j2 k x0 x1 x5 (x7 ++ t268) x8 x9 bt269.2.1 bt269.2.2) else (none)))))) else (none)) else (none)) else (some x5)
def heliographlaw05_FramePlays.j2 : Nat → List ByteArray → List Int → Bool → ByteArray → Bool → Int → ByteArray → Bool → Option (Bool)
  | 0, _, _, _, _, _, _, _, _ => none
  | k + 1, x0, x1, x5, x7, x8, x9, x267000, x267001 => if x9 < (x1.length : Int) then (if 0 ≤ x9 then (heliographlaw05_FramePlays.j3 k x0 x1 x5 x7 x8 x9 (Go.bits .and .i64 (rd x1 x9) 3) x267000 x267001) else (none)) else (heliographlaw05_FramePlays.j3 k x0 x1 x5 x7 x8 x9 1 x267000 x267001)
def heliographlaw05_FramePlays.j3 : Nat → List ByteArray → List Int → Bool → ByteArray → Bool → Int → Int → ByteArray → Bool → Option (Bool)
  | 0, _, _, _, _, _, _, _, _, _ => none
  | k + 1, x0, x1, x5, x7, x8, x9, x11, x267000, x267001 => heliographlaw05_FramePlays.l1 k x0 x1 x5 x7 x8 x9 x11 0 x267000 x267001
def heliographlaw05_FramePlays.l1 : Nat → List ByteArray → List Int → Bool → ByteArray → Bool → Int → Int → Int → ByteArray → Bool → Option (Bool)
  | 0, _, _, _, _, _, _, _, _, _, _ => none
  | k + 1, x0, x1, x5, x7, x8, x9, x11, x12, x267000, x267001 => if x12 < x11 then ((frame_Scanner_Next.f k x267000 x267001).bind fun bt273 => ((heliographref05_Get.f k x7 0).bind fun bt277 => (if bt277.2.2 = 0 then (heliographlaw05_FramePlays.j5 k x0 x1 x5 x7 x8 x9 x11 x12 bt273.1 bt273.2.1 bt277.1 bt277.2.1 bt277.2.2 (!x8) bt273.2.2.1 bt273.2.2.2) else (heliographlaw05_FramePlays.j5 k x0 x1 x5 x7 x8 x9 x11 x12 bt273.1 bt273.2.1 bt277.1 bt277.2.1 bt277.2.2 false bt273.2.2.1 bt273.2.2.2)))) else ((frame_Scanner_Left.f x267000 x267001).bind fun bt280 => (if bt280.1 = (x7.size : Int) then ((frame_Scanner_Bad.f bt280.2.1 bt280.2.2).bind fun bt283 => (if (bt283.1 != x8) = true then (some false) else (heliographlaw05_FramePlays.l0 k x0 x1 x5 x7 x8 (wrap64 (x9 + 1)) bt283.2.1 bt283.2.2))) else (some false)))
def heliographlaw05_FramePlays.j5 : Nat → List ByteArray → List Int → Bool → ByteArray → Bool → Int → Int → Int → ByteArray → Bool → ByteArray → Int → Int → Bool → ByteArray → Bool → Option (Bool)
  | 0, _, _, _, _, _, _, _, _, _, _, _, _, _, _, _, _ => none
  | k + 1, x0, x1, x5, x7, x8, x9, x11, x12, x13, x14, x15, x16, x17, x18, x267000, x267001 => if x18 = true then (if 0 ≤ x16 then (if x16 ≤ (x7.size : Int) then (heliographlaw05_FramePlays.j6 k x0 x1 x5 (x7.extract (x16 : Int).toNat x7.size) x8 x9 x11 x12 x13 x14 x15 x17 x18 x267000 x267001) else (none)) else (none)) else (heliographlaw05_FramePlays.j6 k x0 x1 x5 x7 x8 x9 x11 x12 x13 x14 x15 x17 x18 x267000 x267001)
def heliographlaw05_FramePlays.j6 : Nat → List ByteArray → List Int → Bool → ByteArray → Bool → Int → Int → Int → ByteArray → Bool → ByteArray → Int → Bool → ByteArray → Bool → Option (Bool)
  | 0, _, _, _, _, _, _, _, _, _, _, _, _, _, _, _ => none
  | k + 1, x0, x1, x5, x7, x8, x9, x11, x12, x13, x14, x15, x17, x18, x267000, x267001 => if x17 = 3 then (heliographlaw05_FramePlays.j7 k x0 x1 x5 x7 x8 x9 x11 x12 x13 x14 x15 x18 (!x8) x267000 x267001) else (heliographlaw05_FramePlays.j7 k x0 x1 x5 x7 x8 x9 x11 x12 x13 x14 x15 x18 false x267000 x267001)
def heliographlaw05_FramePlays.j7 : Nat → List ByteArray → List Int → Bool → ByteArray → Bool → Int → Int → Int → ByteArray → Bool → ByteArray → Bool → Bool → ByteArray → Bool → Option (Bool)
  | 0, _, _, _, _, _, _, _, _, _, _, _, _, _, _, _ => none
  | k + 1, x0, x1, x5, x7, x8, x9, x11, x12, x13, x14, x15, x18, x88, x267000, x267001 => if x88 = true then (if (x14 != x18) = true then (some false) else (if x18 = true then (if x13.toList = x15.toList then (heliographlaw05_FramePlays.l1 k x0 x1 x5 (⟨#[]⟩ : ByteArray) true x9 x11 (wrap64 (x12 + 1)) x267000 x267001) else (some false)) else (if x13.toList = ([] : List UInt8) then (heliographlaw05_FramePlays.l1 k x0 x1 x5 (⟨#[]⟩ : ByteArray) true x9 x11 (wrap64 (x12 + 1)) x267000 x267001) else (some false)))) else (if (x14 != x18) = true then (some false) else (if x18 = true then (if x13.toList = x15.toList then (heliographlaw05_FramePlays.l1 k x0 x1 x5 x7 x8 x9 x11 (wrap64 (x12 + 1)) x267000 x267001) else (some false)) else (if x13.toList = ([] : List UInt8) then (heliographlaw05_FramePlays.l1 k x0 x1 x5 x7 x8 x9 x11 (wrap64 (x12 + 1)) x267000 x267001) else (some false))))
end
def heliographlaw05_FramePlays.f (k : Nat) (l0 : List ByteArray) (l1 : List Int) : Option (Bool) := (heliographlaw05_awake.f k).bind fun t263 => ((frame_New.f).bind fun bt264 => (heliographlaw05_FramePlays.l0 k l0 l1 t263 (⟨#[]⟩ : ByteArray) false 0 bt264.1 bt264.2))
theorem heliographlaw05_FramePlays.mono_l : ∀ k, (∀ y0 y1 y2 y3 y4 y5 y6 y7, LeO (heliographlaw05_FramePlays.l0 k y0 y1 y2 y3 y4 y5 y6 y7) (heliographlaw05_FramePlays.l0 (k + 1) y0 y1 y2 y3 y4 y5 y6 y7)) ∧ (∀ y0 y1 y2 y3 y4 y5 y6 y7 y8, LeO (heliographlaw05_FramePlays.j1 k y0 y1 y2 y3 y4 y5 y6 y7 y8) (heliographlaw05_FramePlays.j1 (k + 1) y0 y1 y2 y3 y4 y5 y6 y7 y8)) ∧ (∀ y0 y1 y2 y3 y4 y5 y6 y7, LeO (heliographlaw05_FramePlays.j2 k y0 y1 y2 y3 y4 y5 y6 y7) (heliographlaw05_FramePlays.j2 (k + 1) y0 y1 y2 y3 y4 y5 y6 y7)) ∧ (∀ y0 y1 y2 y3 y4 y5 y6 y7 y8, LeO (heliographlaw05_FramePlays.j3 k y0 y1 y2 y3 y4 y5 y6 y7 y8) (heliographlaw05_FramePlays.j3 (k + 1) y0 y1 y2 y3 y4 y5 y6 y7 y8)) ∧ (∀ y0 y1 y2 y3 y4 y5 y6 y7 y8 y9, LeO (heliographlaw05_FramePlays.l1 k y0 y1 y2 y3 y4 y5 y6 y7 y8 y9) (heliographlaw05_FramePlays.l1 (k + 1) y0 y1 y2 y3 y4 y5 y6 y7 y8 y9)) ∧ (∀ y0 y1 y2 y3 y4 y5 y6 y7 y8 y9 y10 y11 y12 y13 y14 y15, LeO (heliographlaw05_FramePlays.j5 k y0 y1 y2 y3 y4 y5 y6 y7 y8 y9 y10 y11 y12 y13 y14 y15) (heliographlaw05_FramePlays.j5 (k + 1) y0 y1 y2 y3 y4 y5 y6 y7 y8 y9 y10 y11 y12 y13 y14 y15)) ∧ (∀ y0 y1 y2 y3 y4 y5 y6 y7 y8 y9 y10 y11 y12 y13 y14, LeO (heliographlaw05_FramePlays.j6 k y0 y1 y2 y3 y4 y5 y6 y7 y8 y9 y10 y11 y12 y13 y14) (heliographlaw05_FramePlays.j6 (k + 1) y0 y1 y2 y3 y4 y5 y6 y7 y8 y9 y10 y11 y12 y13 y14)) ∧ (∀ y0 y1 y2 y3 y4 y5 y6 y7 y8 y9 y10 y11 y12 y13 y14, LeO (heliographlaw05_FramePlays.j7 k y0 y1 y2 y3 y4 y5 y6 y7 y8 y9 y10 y11 y12 y13 y14) (heliographlaw05_FramePlays.j7 (k + 1) y0 y1 y2 y3 y4 y5 y6 y7 y8 y9 y10 y11 y12 y13 y14))
  | 0 => ⟨fun _ _ _ _ _ _ _ _ r h => by simp [heliographlaw05_FramePlays.l0] at h, fun _ _ _ _ _ _ _ _ _ r h => by simp [heliographlaw05_FramePlays.j1] at h, fun _ _ _ _ _ _ _ _ r h => by simp [heliographlaw05_FramePlays.j2] at h, fun _ _ _ _ _ _ _ _ _ r h => by simp [heliographlaw05_FramePlays.j3] at h, fun _ _ _ _ _ _ _ _ _ _ r h => by simp [heliographlaw05_FramePlays.l1] at h, fun _ _ _ _ _ _ _ _ _ _ _ _ _ _ _ _ r h => by simp [heliographlaw05_FramePlays.j5] at h, fun _ _ _ _ _ _ _ _ _ _ _ _ _ _ _ r h => by simp [heliographlaw05_FramePlays.j6] at h, fun _ _ _ _ _ _ _ _ _ _ _ _ _ _ _ r h => by simp [heliographlaw05_FramePlays.j7] at h⟩
  | k + 1 => by
    obtain ⟨ih0, ih1, ih2, ih3, ih4, ih5, ih6, ih7⟩ := heliographlaw05_FramePlays.mono_l k
    refine ⟨?_, ?_, ?_, ?_, ?_, ?_, ?_, ?_⟩
    · intro y0 y1 y2 y3 y4 y5 y6 y7
      unfold heliographlaw05_FramePlays.l0
      repeat' first
      | (with_reducible exact ih0 _ _ _ _ _ _ _ _)
      | (with_reducible exact ih1 _ _ _ _ _ _ _ _ _)
      | (with_reducible exact ih2 _ _ _ _ _ _ _ _)
      | (with_reducible exact ih3 _ _ _ _ _ _ _ _ _)
      | (with_reducible exact ih4 _ _ _ _ _ _ _ _ _ _)
      | (with_reducible exact ih5 _ _ _ _ _ _ _ _ _ _ _ _ _ _ _ _)
      | (with_reducible exact ih6 _ _ _ _ _ _ _ _ _ _ _ _ _ _ _)
      | (with_reducible exact ih7 _ _ _ _ _ _ _ _ _ _ _ _ _ _ _)
      | (with_reducible exact frame_Scanner_Next.mono _ _ _)
      | (with_reducible exact heliographlaw05_awake.mono _)
      | (with_reducible exact heliographref05_Get.mono _ _ _)
      | (with_reducible exact LeO.refl _)
      | (with_reducible exact LeO.none _)
      | (with_reducible refine LeO.ite ?_ ?_)
      | (with_reducible refine LeO.bind ?_ (fun _ => ?_))
      | exact ih0 _ _ _ _ _ _ _ _
      | exact ih1 _ _ _ _ _ _ _ _ _
      | exact ih2 _ _ _ _ _ _ _ _
      | exact ih3 _ _ _ _ _ _ _ _ _
      | exact ih4 _ _ _ _ _ _ _ _ _ _
      | exact ih5 _ _ _ _ _ _ _ _ _ _ _ _ _ _ _ _
      | exact ih6 _ _ _ _ _ _ _ _ _ _ _ _ _ _ _
      | exact ih7 _ _ _ _ _ _ _ _ _ _ _ _ _ _ _
      | exact frame_Scanner_Next.mono _ _ _
      | exact heliographlaw05_awake.mono _
      | exact heliographref05_Get.mono _ _ _
      | exact LeO.none _
      | refine LeO.ite ?_ ?_
      | refine LeO.bind ?_ (fun _ => ?_)
    · intro y0 y1 y2 y3 y4 y5 y6 y7 y8
      unfold heliographlaw05_FramePlays.j1
      repeat' first
      | (with_reducible exact ih0 _ _ _ _ _ _ _ _)
      | (with_reducible exact ih1 _ _ _ _ _ _ _ _ _)
      | (with_reducible exact ih2 _ _ _ _ _ _ _ _)
      | (with_reducible exact ih3 _ _ _ _ _ _ _ _ _)
      | (with_reducible exact ih4 _ _ _ _ _ _ _ _ _ _)
      | (with_reducible exact ih5 _ _ _ _ _ _ _ _ _ _ _ _ _ _ _ _)
      | (with_reducible exact ih6 _ _ _ _ _ _ _ _ _ _ _ _ _ _ _)
      | (with_reducible exact ih7 _ _ _ _ _ _ _ _ _ _ _ _ _ _ _)
      | (with_reducible exact frame_Scanner_Next.mono _ _ _)
      | (with_reducible exact heliographlaw05_awake.mono _)
      | (with_reducible exact heliographref05_Get.mono _ _ _)
      | (with_reducible exact LeO.refl _)
      | (with_reducible exact LeO.none _)
      | (with_reducible refine LeO.ite ?_ ?_)
      | (with_reducible refine LeO.bind ?_ (fun _ => ?_))
      | exact ih0 _ _ _ _ _ _ _ _
      | exact ih1 _ _ _ _ _ _ _ _ _
      | exact ih2 _ _ _ _ _ _ _ _
      | exact ih3 _ _ _ _ _ _ _ _ _
      | exact ih4 _ _ _ _ _ _ _ _ _ _
      | exact ih5 _ _ _ _ _ _ _ _ _ _ _ _ _ _ _ _
      | exact ih6 _ _ _ _ _ _ _ _ _ _ _ _ _ _ _
      | exact ih7 _ _ _ _ _ _ _ _ _ _ _ _ _ _ _
      | exact frame_Scanner_Next.mono _ _ _
      | exact heliographlaw05_awake.mono _
      | exact heliographref05_Get.mono _ _ _
      | exact LeO.none _
      | refine LeO.ite ?_ ?_
      | refine LeO.bind ?_ (fun _ => ?_)
    · intro y0 y1 y2 y3 y4 y5 y6 y7
      unfold heliographlaw05_FramePlays.j2
      repeat' first
      | (with_reducible exact ih0 _ _ _ _ _ _ _ _)
      | (with_reducible exact ih1 _ _ _ _ _ _ _ _ _)
      | (with_reducible exact ih2 _ _ _ _ _ _ _ _)
      | (with_reducible exact ih3 _ _ _ _ _ _ _ _ _)
      | (with_reducible exact ih4 _ _ _ _ _ _ _ _ _ _)
      | (with_reducible exact ih5 _ _ _ _ _ _ _ _ _ _ _ _ _ _ _ _)
      | (with_reducible exact ih6 _ _ _ _ _ _ _ _ _ _ _ _ _ _ _)
      | (with_reducible exact ih7 _ _ _ _ _ _ _ _ _ _ _ _ _ _ _)
      | (with_reducible exact frame_Scanner_Next.mono _ _ _)
      | (with_reducible exact heliographlaw05_awake.mono _)
      | (with_reducible exact heliographref05_Get.mono _ _ _)
      | (with_reducible exact LeO.refl _)
      | (with_reducible exact LeO.none _)
      | (with_reducible refine LeO.ite ?_ ?_)
      | (with_reducible refine LeO.bind ?_ (fun _ => ?_))
      | exact ih0 _ _ _ _ _ _ _ _
      | exact ih1 _ _ _ _ _ _ _ _ _
      | exact ih2 _ _ _ _ _ _ _ _
      | exact ih3 _ _ _ _ _ _ _ _ _
      | exact ih4 _ _ _ _ _ _ _ _ _ _
      | exact ih5 _ _ _ _ _ _ _ _ _ _ _ _ _ _ _ _
      | exact ih6 _ _ _ _ _ _ _ _ _ _ _ _ _ _ _
      | exact ih7 _ _ _ _ _ _ _ _ _ _ _ _ _ _ _
      | exact frame_Scanner_Next.mono _ _ _
      | exact heliographlaw05_awake.mono _
      | exact heliographref05_Get.mono _ _ _
      | exact LeO.none _
      | refine LeO.ite ?_ ?_
      | refine LeO.bind ?_ (fun _ => ?_)
    · intro y0 y1 y2 y3 y4 y5 y6 y7 y8
      unfold heliographlaw05_FramePlays.j3
      repeat' first
      | (with_reducible exact ih0 _ _ _ _ _ _ _ _)
      | (with_reducible exact ih1 _ _ _ _ _ _ _ _ _)
      | (with_reducible exact ih2 _ _ _ _ _ _ _ _)
      | (with_reducible exact ih3 _ _ _ _ _ _ _ _ _)
      | (with_reducible exact ih4 _ _ _ _ _ _ _ _ _ _)
      | (with_reducible exact ih5 _ _ _ _ _ _ _ _ _ _ _ _ _ _ _ _)
      | (with_reducible exact ih6 _ _ _ _ _ _ _ _ _ _ _ _ _ _ _)
      | (with_reducible exact ih7 _ _ _ _ _ _ _ _ _ _ _ _ _ _ _)
      | (with_reducible exact frame_Scanner_Next.mono _ _ _)
      | (with_reducible exact heliographlaw05_awake.mono _)
      | (with_reducible exact heliographref05_Get.mono _ _ _)
      | (with_reducible exact LeO.refl _)
      | (with_reducible exact LeO.none _)
      | (with_reducible refine LeO.ite ?_ ?_)
      | (with_reducible refine LeO.bind ?_ (fun _ => ?_))
      | exact ih0 _ _ _ _ _ _ _ _
      | exact ih1 _ _ _ _ _ _ _ _ _
      | exact ih2 _ _ _ _ _ _ _ _
      | exact ih3 _ _ _ _ _ _ _ _ _
      | exact ih4 _ _ _ _ _ _ _ _ _ _
      | exact ih5 _ _ _ _ _ _ _ _ _ _ _ _ _ _ _ _
      | exact ih6 _ _ _ _ _ _ _ _ _ _ _ _ _ _ _
      | exact ih7 _ _ _ _ _ _ _ _ _ _ _ _ _ _ _
      | exact frame_Scanner_Next.mono _ _ _
      | exact heliographlaw05_awake.mono _
      | exact heliographref05_Get.mono _ _ _
      | exact LeO.none _
      | refine LeO.ite ?_ ?_
      | refine LeO.bind ?_ (fun _ => ?_)
    · intro y0 y1 y2 y3 y4 y5 y6 y7 y8 y9
      unfold heliographlaw05_FramePlays.l1
      repeat' first
      | (with_reducible exact ih0 _ _ _ _ _ _ _ _)
      | (with_reducible exact ih1 _ _ _ _ _ _ _ _ _)
      | (with_reducible exact ih2 _ _ _ _ _ _ _ _)
      | (with_reducible exact ih3 _ _ _ _ _ _ _ _ _)
      | (with_reducible exact ih4 _ _ _ _ _ _ _ _ _ _)
      | (with_reducible exact ih5 _ _ _ _ _ _ _ _ _ _ _ _ _ _ _ _)
      | (with_reducible exact ih6 _ _ _ _ _ _ _ _ _ _ _ _ _ _ _)
      | (with_reducible exact ih7 _ _ _ _ _ _ _ _ _ _ _ _ _ _ _)
      | (with_reducible exact frame_Scanner_Next.mono _ _ _)
      | (with_reducible exact heliographlaw05_awake.mono _)
      | (with_reducible exact heliographref05_Get.mono _ _ _)
      | (with_reducible exact LeO.refl _)
      | (with_reducible exact LeO.none _)
      | (with_reducible refine LeO.ite ?_ ?_)
      | (with_reducible refine LeO.bind ?_ (fun _ => ?_))
      | exact ih0 _ _ _ _ _ _ _ _
      | exact ih1 _ _ _ _ _ _ _ _ _
      | exact ih2 _ _ _ _ _ _ _ _
      | exact ih3 _ _ _ _ _ _ _ _ _
      | exact ih4 _ _ _ _ _ _ _ _ _ _
      | exact ih5 _ _ _ _ _ _ _ _ _ _ _ _ _ _ _ _
      | exact ih6 _ _ _ _ _ _ _ _ _ _ _ _ _ _ _
      | exact ih7 _ _ _ _ _ _ _ _ _ _ _ _ _ _ _
      | exact frame_Scanner_Next.mono _ _ _
      | exact heliographlaw05_awake.mono _
      | exact heliographref05_Get.mono _ _ _
      | exact LeO.none _
      | refine LeO.ite ?_ ?_
      | refine LeO.bind ?_ (fun _ => ?_)
    · intro y0 y1 y2 y3 y4 y5 y6 y7 y8 y9 y10 y11 y12 y13 y14 y15
      unfold heliographlaw05_FramePlays.j5
      repeat' first
      | (with_reducible exact ih0 _ _ _ _ _ _ _ _)
      | (with_reducible exact ih1 _ _ _ _ _ _ _ _ _)
      | (with_reducible exact ih2 _ _ _ _ _ _ _ _)
      | (with_reducible exact ih3 _ _ _ _ _ _ _ _ _)
      | (with_reducible exact ih4 _ _ _ _ _ _ _ _ _ _)
      | (with_reducible exact ih5 _ _ _ _ _ _ _ _ _ _ _ _ _ _ _ _)
      | (with_reducible exact ih6 _ _ _ _ _ _ _ _ _ _ _ _ _ _ _)
      | (with_reducible exact ih7 _ _ _ _ _ _ _ _ _ _ _ _ _ _ _)
      | (with_reducible exact frame_Scanner_Next.mono _ _ _)
      | (with_reducible exact heliographlaw05_awake.mono _)
      | (with_reducible exact heliographref05_Get.mono _ _ _)
      | (with_reducible exact LeO.refl _)
      | (with_reducible exact LeO.none _)
      | (with_reducible refine LeO.ite ?_ ?_)
      | (with_reducible refine LeO.bind ?_ (fun _ => ?_))
      | exact ih0 _ _ _ _ _ _ _ _
      | exact ih1 _ _ _ _ _ _ _ _ _
      | exact ih2 _ _ _ _ _ _ _ _
      | exact ih3 _ _ _ _ _ _ _ _ _
      | exact ih4 _ _ _ _ _ _ _ _ _ _
      | exact ih5 _ _ _ _ _ _ _ _ _ _ _ _ _ _ _ _
      | exact ih6 _ _ _ _ _ _ _ _ _ _ _ _ _ _ _
      | exact ih7 _ _ _ _ _ _ _ _ _ _ _ _ _ _ _
      | exact frame_Scanner_Next.mono _ _ _
      | exact heliographlaw05_awake.mono _
      | exact heliographref05_Get.mono _ _ _
      | exact LeO.none _
      | refine LeO.ite ?_ ?_
      | refine LeO.bind ?_ (fun _ => ?_)
    · intro y0 y1 y2 y3 y4 y5 y6 y7 y8 y9 y10 y11 y12 y13 y14
      unfold heliographlaw05_FramePlays.j6
      repeat' first
      | (with_reducible exact ih0 _ _ _ _ _ _ _ _)
      | (with_reducible exact ih1 _ _ _ _ _ _ _ _ _)
      | (with_reducible exact ih2 _ _ _ _ _ _ _ _)
      | (with_reducible exact ih3 _ _ _ _ _ _ _ _ _)
      | (with_reducible exact ih4 _ _ _ _ _ _ _ _ _ _)
      | (with_reducible exact ih5 _ _ _ _ _ _ _ _ _ _ _ _ _ _ _ _)
      | (with_reducible exact ih6 _ _ _ _ _ _ _ _ _ _ _ _ _ _ _)
      | (with_reducible exact ih7 _ _ _ _ _ _ _ _ _ _ _ _ _ _ _)
      | (with_reducible exact frame_Scanner_Next.mono _ _ _)
      | (with_reducible exact heliographlaw05_awake.mono _)
      | (with_reducible exact heliographref05_Get.mono _ _ _)
      | (with_reducible exact LeO.refl _)
      | (with_reducible exact LeO.none _)
      | (with_reducible refine LeO.ite ?_ ?_)
      | (with_reducible refine LeO.bind ?_ (fun _ => ?_))
      | exact ih0 _ _ _ _ _ _ _ _
      | exact ih1 _ _ _ _ _ _ _ _ _
      | exact ih2 _ _ _ _ _ _ _ _
      | exact ih3 _ _ _ _ _ _ _ _ _
      | exact ih4 _ _ _ _ _ _ _ _ _ _
      | exact ih5 _ _ _ _ _ _ _ _ _ _ _ _ _ _ _ _
      | exact ih6 _ _ _ _ _ _ _ _ _ _ _ _ _ _ _
      | exact ih7 _ _ _ _ _ _ _ _ _ _ _ _ _ _ _
      | exact frame_Scanner_Next.mono _ _ _
      | exact heliographlaw05_awake.mono _
      | exact heliographref05_Get.mono _ _ _
      | exact LeO.none _
      | refine LeO.ite ?_ ?_
      | refine LeO.bind ?_ (fun _ => ?_)
    · intro y0 y1 y2 y3 y4 y5 y6 y7 y8 y9 y10 y11 y12 y13 y14
      unfold heliographlaw05_FramePlays.j7
      repeat' first
      | (with_reducible exact ih0 _ _ _ _ _ _ _ _)
      | (with_reducible exact ih1 _ _ _ _ _ _ _ _ _)
      | (with_reducible exact ih2 _ _ _ _ _ _ _ _)
      | (with_reducible exact ih3 _ _ _ _ _ _ _ _ _)
      | (with_reducible exact ih4 _ _ _ _ _ _ _ _ _ _)
      | (with_reducible exact ih5 _ _ _ _ _ _ _ _ _ _ _ _ _ _ _ _)
      | (with_reducible exact ih6 _ _ _ _ _ _ _ _ _ _ _ _ _ _ _)
      | (with_reducible exact ih7 _ _ _ _ _ _ _ _ _ _ _ _ _ _ _)
      | (with_reducible exact frame_Scanner_Next.mono _ _ _)
      | (with_reducible exact heliographlaw05_awake.mono _)
      | (with_reducible exact heliographref05_Get.mono _ _ _)
      | (with_reducible exact LeO.refl _)
      | (with_reducible exact LeO.none _)
      | (with_reducible refine LeO.ite ?_ ?_)
      | (with_reducible refine LeO.bind ?_ (fun _ => ?_))
      | exact ih0 _ _ _ _ _ _ _ _
      | exact ih1 _ _ _ _ _ _ _ _ _
      | exact ih2 _ _ _ _ _ _ _ _
      | exact ih3 _ _ _ _ _ _ _ _ _
      | exact ih4 _ _ _ _ _ _ _ _ _ _
      | exact ih5 _ _ _ _ _ _ _ _ _ _ _ _ _ _ _ _
      | exact ih6 _ _ _ _ _ _ _ _ _ _ _ _ _ _ _
      | exact ih7 _ _ _ _ _ _ _ _ _ _ _ _ _ _ _
      | exact frame_Scanner_Next.mono _ _ _
      | exact heliographlaw05_awake.mono _
      | exact heliographref05_Get.mono _ _ _
      | exact LeO.none _
      | refine LeO.ite ?_ ?_
      | refine LeO.bind ?_ (fun _ => ?_)
theorem heliographlaw05_FramePlays.mono : ∀ a0 a1 k, LeO (heliographlaw05_FramePlays.f k a0 a1) (heliographlaw05_FramePlays.f (k + 1) a0 a1) := by
  intro a0 a1 k
  obtain ⟨ih0, ih1, ih2, ih3, ih4, ih5, ih6, ih7⟩ := heliographlaw05_FramePlays.mono_l k
  unfold heliographlaw05_FramePlays.f
  repeat' first
      | (with_reducible exact ih0 _ _ _ _ _ _ _ _)
      | (with_reducible exact ih1 _ _ _ _ _ _ _ _ _)
      | (with_reducible exact ih2 _ _ _ _ _ _ _ _)
      | (with_reducible exact ih3 _ _ _ _ _ _ _ _ _)
      | (with_reducible exact ih4 _ _ _ _ _ _ _ _ _ _)
      | (with_reducible exact ih5 _ _ _ _ _ _ _ _ _ _ _ _ _ _ _ _)
      | (with_reducible exact ih6 _ _ _ _ _ _ _ _ _ _ _ _ _ _ _)
      | (with_reducible exact ih7 _ _ _ _ _ _ _ _ _ _ _ _ _ _ _)
      | (with_reducible exact frame_Scanner_Next.mono _ _ _)
      | (with_reducible exact heliographlaw05_awake.mono _)
      | (with_reducible exact heliographref05_Get.mono _ _ _)
      | (with_reducible exact LeO.refl _)
      | (with_reducible exact LeO.none _)
      | (with_reducible refine LeO.ite ?_ ?_)
      | (with_reducible refine LeO.bind ?_ (fun _ => ?_))
      | exact ih0 _ _ _ _ _ _ _ _
      | exact ih1 _ _ _ _ _ _ _ _ _
      | exact ih2 _ _ _ _ _ _ _ _
      | exact ih3 _ _ _ _ _ _ _ _ _
      | exact ih4 _ _ _ _ _ _ _ _ _ _
      | exact ih5 _ _ _ _ _ _ _ _ _ _ _ _ _ _ _ _
      | exact ih6 _ _ _ _ _ _ _ _ _ _ _ _ _ _ _
      | exact ih7 _ _ _ _ _ _ _ _ _ _ _ _ _ _ _
      | exact frame_Scanner_Next.mono _ _ _
      | exact heliographlaw05_awake.mono _
      | exact heliographref05_Get.mono _ _ _
      | exact LeO.none _
      | refine LeO.ite ?_ ?_
      | refine LeO.bind ?_ (fun _ => ?_)
set_option maxHeartbeats 8000000 in
set_option maxRecDepth 100000 in
theorem heliographlaw05_FramePlays.calls (k : Nat) (A0 : Option Addr) (c0 : Nat) (l0 : List ByteArray) (A1 : Option Addr) (c1 : Nat) (l1 : List Int) (r : Bool) (w : World) (hr0 : Kd.C Kd.string w A0 l0.length l0) (hc0 : l0.length ≤ c0) (hr1 : Kd.C (Kd.int .i64) w A1 l1.length l1) (hc1 : l1.length ≤ c1) (hT : TabIn w) (h : heliographlaw05_FramePlays.f k l0 l1 = some r) :
    Calls Tryd.prog 7 #[.slice A0 l0.length c0, .slice A1 l1.length c1] w fun e w' => e = .returned (.bool r) ∧ Below w.heap.size w w' := by
  have HTB := Aside0.mk hT
  clear hT
  have HR0 := Aside0.mk hr0
  have HC0 := Aside0.mk hc0
  clear hr0 hc0
  have HR1 := Aside0.mk hr1
  have HC1 := Aside0.mk hc1
  clear hr1 hc1
  have HB := Aside0.mk (Below.refl w.heap.size w)
  have H : ((heliographlaw05_awake.f k).bind fun t263 => ((frame_New.f).bind fun bt264 => (heliographlaw05_FramePlays.l0 k l0 l1 t263 (⟨#[]⟩ : ByteArray) false 0 bt264.1 bt264.2))) = some r := h
  clear h
  replace H := Option.bind_eq_some_iff.mp H
  obtain ⟨t263, A30, H⟩ := H
  replace H : ((frame_New.f).bind fun bt264 => (heliographlaw05_FramePlays.l0 k l0 l1 t263 (⟨#[]⟩ : ByteArray) false 0 bt264.1 bt264.2)) = some r := H
  have A3 := Aside0.mk A30
  clear A30
  replace H := Option.bind_eq_some_iff.mp H
  obtain ⟨⟨t264, t265⟩, A40, H⟩ := H
  replace H : (heliographlaw05_FramePlays.l0 k l0 l1 t263 (⟨#[]⟩ : ByteArray) false 0 t264 t265) = some r := H
  have A4 := Aside0.mk A40
  clear A40
  have H' := Aside0.mk H
  clear H
  go_enter Tryd.func7, Tryd.ntmps7
  go_wp2_with (first | ((with_reducible refine gate_callee (f := 24) rfl ?_); refine goesL_ (some 19) rfl rfl Tryd.func24 (by kernel_rfl) rfl #[] rfl (by (try simp only [List.map_toArray, List.map_cons, List.map_nil]); first | done | rfl | (simp only [List.length_drop, List.length_take]; rfl)) ?_; (with_reducible refine (heliographlaw05_awake.calls k  t263 _ ?side1 A3.out).mono ?_); (case side1 => exact TabIn.below HTB.out (by repeat (first | (with_reducible first | exact HB.out | apply below_alloc | apply pw_below_drewN | apply below_drew1) | exact HB.out))); rintro e w5 ⟨rfl, hb⟩; refine ⟨_, rfl, ?_⟩; have n0_ := Aside0.mk (below_step (by repeat (first | (with_reducible first | exact HB.out | apply below_alloc | apply pw_below_drewN | apply below_drew1) | exact HB.out)) hb); clear HB; have HB := n0_; clear n0_; (try clear hb); (try clear hb2); (try clear hk); (try clear hi)) | ((with_reducible refine gate_callee (f := 25) rfl ?_); refine goesL_ (some 20) rfl rfl Tryd.func25 (by kernel_rfl) rfl #[] rfl (by (try simp only [List.map_toArray, List.map_cons, List.map_nil]); first | done | rfl | (simp only [List.length_drop, List.length_take]; rfl)) ?_; (with_reducible refine (frame_New.calls  t264 t265 w _ ?side1 A4.out).mono ?_); (case side1 => repeat (first | (with_reducible first | exact HB.out | apply below_alloc | apply pw_below_drewN | apply below_drew1) | exact HB.out)); rintro e w6 ⟨g266, rfl, hi, hb, hb2⟩; refine ⟨_, rfl, ?_⟩; have n0_ := Aside0.mk (hb); have n1_ := Aside0.mk (hi); clear HB; have HB := n0_; have HI266 := n1_; clear n0_ n1_; (try clear hb); (try clear hb2); (try clear hk); (try clear hi)))
  go_loopg [7, 8, 9] k (fun kq v7 v8 v9 w' => ∃ (x7_1 : ByteArray) (x8_1 : Bool) (x9_1 : Int) (x267000_1 : ByteArray) (x267001_1 : Bool), v7 = .string x7_1 ∧ v8 = .bool x8_1 ∧ v9 = .int .i64 x9_1 ∧ Aside0 (heliographlaw05_FramePlays.l0 kq l0 l1 t263 x7_1 x8_1 x9_1 x267000_1 x267001_1 = some r) ∧ Aside0 (kq ≤ k) ∧ Aside0 (IsS65 w w' g266 x267000_1 x267001_1) ∧ Aside0 (Below w.heap.size w w'))
  case atStart => exact ⟨((⟨#[]⟩ : ByteArray)), (false), (0), (t264), (t265), (by first | rfl | (simp; done) | (simp [*]; done)), (by first | rfl | (simp; done) | (simp [*]; done)), (by first | rfl | (simp; done) | (simp [*]; done)), H', ⟨Nat.le_refl _⟩, ⟨by repeat (first | (with_reducible first | exact HI266.out | apply IsS65.alloc | apply IsS65.drewN | apply IsS65.drew | apply IsS65.set_0 | apply IsS65.set_1) | exact HI266.out)⟩, ⟨by repeat (first | (with_reducible first | exact HB.out | apply below_alloc | apply pw_below_drewN | apply below_drew1 | refine below_set ?_ (IsS65.ge HI266.out)) | exact HB.out)⟩⟩
  case round =>
    clear H'
    try clear c1
    try clear c2
    try clear p2
    obtain ⟨x7_1, x8_1, x9_1, x267000_1, x267001_1, rfl, rfl, rfl, HA, HK1, HI266, HB⟩ := hrel
    cases gk with
    | zero => exact absurd HA.out (by simp [heliographlaw05_FramePlays.l0])
    | succ k1 =>
      have H := HA.out
      clear HA
      simp only [heliographlaw05_FramePlays.l0] at H
      have HC7 := Aside0.mk H
      clear H
      go_upto_region 8 with (fail)
      go_cut [30] (fun v30 wc => ∃ (kq : Nat) (x30_6 : Bool), v30 = .bool x30_6 ∧ Aside0 (heliographlaw05_FramePlays.j1 kq l0 l1 t263 x7_1 x8_1 x9_1 x30_6 x267000_1 x267001_1 = some r) ∧ Aside0 (kq ≤ k1) ∧ Aside0 (IsS65 w wc g266 x267000_1 x267001_1) ∧ Aside0 (Below w.heap.size w wc))
      case first =>
        have H := HC7.out
        clear HC7
        by_cases c8 : x9_1 < (l0.length : Int)
        · rw [if_pos c8] at H
          have c8b0 : decide (x9_1 < (l0.length : Int)) = true := decide_eq_true c8
          clear c8
          (first | rw [c8b0] | (simp only [i64_w, i32_w]; rw [c8b0]) | skip)
          have H' := Aside0.mk H
          clear H
          go_wp2
          go_meet
          case rel => exact ⟨_, (decide (x9_1 < 40)), (by first | rfl | (simp; done) | (simp [*]; done)), H', ⟨by have := HK1.out; first | omega | exact Nat.le_refl _⟩, ⟨by repeat (first | (with_reducible first | exact HI266.out | apply IsS65.alloc | apply IsS65.drewN | apply IsS65.drew | apply IsS65.set_0 | apply IsS65.set_1) | exact HI266.out)⟩, ⟨by repeat (first | (with_reducible first | exact HB.out | apply below_alloc | apply pw_below_drewN | apply below_drew1 | refine below_set ?_ (IsS65.ge HI266.out)) | exact HB.out)⟩⟩
        · rw [if_neg c8] at H
          have c8b0 : decide (x9_1 < (l0.length : Int)) = false := decide_eq_false c8
          clear c8
          (first | rw [c8b0] | (simp only [i64_w, i32_w]; rw [c8b0]) | skip)
          have H' := Aside0.mk H
          clear H
          go_wp2
          go_meet
          case rel => exact ⟨_, (false), (by first | rfl | (simp; done) | (simp [*]; done)), H', ⟨by have := HK1.out; first | omega | exact Nat.le_refl _⟩, ⟨by repeat (first | (with_reducible first | exact HI266.out | apply IsS65.alloc | apply IsS65.drewN | apply IsS65.drew | apply IsS65.set_0 | apply IsS65.set_1) | exact HI266.out)⟩, ⟨by repeat (first | (with_reducible first | exact HB.out | apply below_alloc | apply pw_below_drewN | apply below_drew1 | refine below_set ?_ (IsS65.ge HI266.out)) | exact HB.out)⟩⟩
      case rest =>
        clear HC7
        try clear c1
        try clear c2
        try clear p2
        try clear c7
        try clear c8
        try clear c8b0
        try clear p2
        obtain ⟨kq, x30_6, rfl, HA, HJ6, HI266, HB⟩ := hcut
        cases kq with
        | zero => exact absurd HA.out (by simp [heliographlaw05_FramePlays.j1])
        | succ kj6 =>
          have H := HA.out
          clear HA
          simp only [heliographlaw05_FramePlays.j1] at H
          by_cases c9 : x30_6 = true
          · subst c9
            have H1 : (if 0 ≤ x9_1 then (if x9_1 < (l0.length : Int) then ((heliographlaw05_short.f (rdOf ByteArray.empty l0 x9_1) 400).bind fun t268 => ((frame_Scanner_Feed.f x267000_1 x267001_1 t268).bind fun bt269 => (if (bt269.1 == x8_1) = true then (some false) else (if x8_1 = true then (heliographlaw05_FramePlays.j2 kj6 l0 l1 t263 x7_1 x8_1 x9_1 bt269.2.1 bt269.2.2) else (if x7_1.size + t268.size ≤ 9223372036854775807 then (heliographlaw05_FramePlays.j2 kj6 l0 l1 t263 (x7_1 ++ t268) x8_1 x9_1 bt269.2.1 bt269.2.2) else (none)))))) else (none)) else (none)) = some r := by rw [if_pos rfl] at H; exact H
            clear H
            have H := H1
            clear H1
            by_cases c10 : 0 ≤ x9_1
            · rw [if_pos c10] at H
              have c10b0 : decide (0 ≤ x9_1) = true := decide_eq_true c10
              clear c10
              by_cases c11 : x9_1 < (l0.length : Int)
              · rw [if_pos c11] at H
                have c11b0 : decide (x9_1 < (l0.length : Int)) = true := decide_eq_true c11
                clear c11
                replace H := Option.bind_eq_some_iff.mp H
                obtain ⟨t268, A120, H⟩ := H
                replace H : ((frame_Scanner_Feed.f x267000_1 x267001_1 t268).bind fun bt269 => (if (bt269.1 == x8_1) = true then (some false) else (if x8_1 = true then (heliographlaw05_FramePlays.j2 kj6 l0 l1 t263 x7_1 x8_1 x9_1 bt269.2.1 bt269.2.2) else (if x7_1.size + t268.size ≤ 9223372036854775807 then (heliographlaw05_FramePlays.j2 kj6 l0 l1 t263 (x7_1 ++ t268) x8_1 x9_1 bt269.2.1 bt269.2.2) else (none))))) = some r := H
                have A12 := Aside0.mk A120
                clear A120
                replace H := Option.bind_eq_some_iff.mp H
                obtain ⟨⟨t269, t270, t271⟩, A130, H⟩ := H
                replace H : (if (t269 == x8_1) = true then (some false) else (if x8_1 = true then (heliographlaw05_FramePlays.j2 kj6 l0 l1 t263 x7_1 x8_1 x9_1 t270 t271) else (if x7_1.size + t268.size ≤ 9223372036854775807 then (heliographlaw05_FramePlays.j2 kj6 l0 l1 t263 (x7_1 ++ t268) x8_1 x9_1 t270 t271) else (none)))) = some r := H
                have A13 := Aside0.mk A130
                clear A130
                by_cases c14 : (t269 == x8_1) = true
                · rw [if_pos c14] at H
                  have c14b0 : (t269 == x8_1) = true := c14
                  (try (have c14b1 : decide (t269 = x8_1) = true := by simpa using c14))
                  (try (have c14b2 : (t269 == x8_1) = true := by simpa using c14))
                  clear c14
                  obtain rfl := Option.some.inj H
                  have p267 : 0 ≤ (x9_1 : Int) := of_decide_eq_true (by first | (with_reducible assumption) | assumption)
                  have q267 : x9_1 < (l0.length : Int) := of_decide_eq_true (by first | (with_reducible assumption) | assumption)
                  obtain ⟨ad267, e267, hx267_0⟩ := Kd.at_string HR0.out x9_1 p267 q267
                  cases e267
                  replace hx267_0 := (HB.out.cell (World.block_lt_of_cell? w _ hx267_0)).trans hx267_0
                  replace p267 := eq_true p267
                  replace q267 := eq_true q267
                  go_wp2_with (first | ((with_reducible refine gate_callee (f := 26) rfl ?_); refine goesL_ (some 37) rfl rfl Tryd.func26 (by kernel_rfl) rfl #[.string (rdOf ByteArray.empty l0 x9_1), .int .i64 400] rfl (by (try simp only [List.map_toArray, List.map_cons, List.map_nil]); first | done | rfl | (simp only [List.length_drop, List.length_take]; rfl)) ?_; (with_reducible refine (heliographlaw05_short.calls (rdOf ByteArray.empty l0 x9_1) 400 t268 _ A12.out).mono ?_); rintro e w' ⟨rfl, ⟨nd, rfl⟩⟩; refine ⟨_, rfl, ?_⟩) | ((with_reducible refine gate_callee (f := 27) rfl ?_); refine goesL_ (some 40) rfl rfl Tryd.func27 (by kernel_rfl) rfl #[.pointer (some ⟨g266, 0, none⟩), .string t268] rfl (by (try simp only [List.map_toArray, List.map_cons, List.map_nil]); first | done | rfl | (simp only [List.length_drop, List.length_take]; rfl)) ?_; (with_reducible refine (frame_Scanner_Feed.calls g266 x267000_1 x267001_1 t268 t269 t270 t271 w _ ?side1 ?side2 A13.out).mono ?_); (case side1 => repeat (first | (with_reducible first | exact HI266.out | apply IsS65.alloc | apply IsS65.drewN | apply IsS65.drew | apply IsS65.set_0 | apply IsS65.set_1) | exact HI266.out)); (case side2 => repeat (first | (with_reducible first | exact HB.out | apply below_alloc | apply pw_below_drewN | apply below_drew1 | refine below_set ?_ (IsS65.ge HI266.out)) | exact HB.out)); rintro e w15 ⟨rfl, hi, hb, hk⟩; refine ⟨_, rfl, ?_⟩; have n0_ := Aside0.mk (hb); have n1_ := Aside0.mk (hi); clear HB; clear HI266; have HB := n0_; have HI266 := n1_; clear n0_ n1_; (try clear hb); (try clear hb2); (try clear hk); (try clear hi)))
                  go_ret
                  exact ⟨by first | rfl | (simp [errW_none, errW_some] <;> rfl) | (simp [*, errW_none, errW_some] <;> rfl), by repeat (first | (with_reducible first | exact HB.out | apply below_alloc | apply pw_below_drewN | apply below_drew1 | refine below_set ?_ (IsS65.ge HI266.out)) | exact HB.out)⟩
                · rw [if_neg c14] at H
                  have c14b0 : (t269 == x8_1) = false := by simpa using c14
                  (try (have c14b1 : decide (t269 = x8_1) = false := by simpa using c14))
                  (try (have c14b2 : (t269 == x8_1) = false := by simpa using c14))
                  (try (have c14b3 : ¬ (t269 = x8_1) := by simpa using c14))
                  clear c14
                  have HC16 := Aside0.mk H
                  clear H
                  have p267 : 0 ≤ (x9_1 : Int) := of_decide_eq_true (by first | (with_reducible assumption) | assumption)
                  have q267 : x9_1 < (l0.length : Int) := of_decide_eq_true (by first | (with_reducible assumption) | assumption)
                  obtain ⟨ad267, e267, hx267_0⟩ := Kd.at_string HR0.out x9_1 p267 q267
                  cases e267
                  replace hx267_0 := (HB.out.cell (World.block_lt_of_cell? w _ hx267_0)).trans hx267_0
                  replace p267 := eq_true p267
                  replace q267 := eq_true q267
                  go_upto_if 44 with (first | ((with_reducible refine gate_callee (f := 26) rfl ?_); refine goesL_ (some 37) rfl rfl Tryd.func26 (by kernel_rfl) rfl #[.string (rdOf ByteArray.empty l0 x9_1), .int .i64 400] rfl (by (try simp only [List.map_toArray, List.map_cons, List.map_nil]); first | done | rfl | (simp only [List.length_drop, List.length_take]; rfl)) ?_; (with_reducible refine (heliographlaw05_short.calls (rdOf ByteArray.empty l0 x9_1) 400 t268 _ A12.out).mono ?_); rintro e w' ⟨rfl, ⟨nd, rfl⟩⟩; refine ⟨_, rfl, ?_⟩) | ((with_reducible refine gate_callee (f := 27) rfl ?_); refine goesL_ (some 40) rfl rfl Tryd.func27 (by kernel_rfl) rfl #[.pointer (some ⟨g266, 0, none⟩), .string t268] rfl (by (try simp only [List.map_toArray, List.map_cons, List.map_nil]); first | done | rfl | (simp only [List.length_drop, List.length_take]; rfl)) ?_; (with_reducible refine (frame_Scanner_Feed.calls g266 x267000_1 x267001_1 t268 t269 t270 t271 w _ ?side1 ?side2 A13.out).mono ?_); (case side1 => repeat (first | (with_reducible first | exact HI266.out | apply IsS65.alloc | apply IsS65.drewN | apply IsS65.drew | apply IsS65.set_0 | apply IsS65.set_1) | exact HI266.out)); (case side2 => repeat (first | (with_reducible first | exact HB.out | apply below_alloc | apply pw_below_drewN | apply below_drew1 | refine below_set ?_ (IsS65.ge HI266.out)) | exact HB.out)); rintro e w17 ⟨rfl, hi, hb, hk⟩; refine ⟨_, rfl, ?_⟩; have n0_ := Aside0.mk (hb); have n1_ := Aside0.mk (hi); clear HB; clear HI266; have HB := n0_; have HI266 := n1_; clear n0_ n1_; (try clear hb); (try clear hb2); (try clear hk); (try clear hi)))
                  (try simp only [Act.put, List.setIfInBounds_toArray, List.set_cons_zero, List.set_cons_succ])
                  go_cut [7] (fun v7 wc => ∃ (kq : Nat) (x7_15 : ByteArray), v7 = .string x7_15 ∧ Aside0 (heliographlaw05_FramePlays.j2 kq l0 l1 t263 x7_15 x8_1 x9_1 t270 t271 = some r) ∧ Aside0 (kq ≤ kj6) ∧ Aside0 (IsS65 w wc g266 t270 t271) ∧ Aside0 (Below w.heap.size w wc))
                  case first =>
                    have H := HC16.out
                    clear HC16
                    by_cases c18 : x8_1 = true
                    · subst c18
                      have H1 : (heliographlaw05_FramePlays.j2 kj6 l0 l1 t263 x7_1 true x9_1 t270 t271) = some r := by rw [if_pos rfl] at H; exact H
                      clear H
                      have H := H1
                      clear H1
                      have H' := Aside0.mk H
                      clear H
                      go_wp2
                      go_meet
                      case rel => exact ⟨_, (x7_1), (by first | rfl | (simp; done) | (simp [*]; done)), H', ⟨by have := HK1.out; have := HJ6.out; first | omega | exact Nat.le_refl _⟩, ⟨by repeat (first | (with_reducible first | exact HI266.out | apply IsS65.alloc | apply IsS65.drewN | apply IsS65.drew | apply IsS65.set_0 | apply IsS65.set_1) | exact HI266.out)⟩, ⟨by repeat (first | (with_reducible first | exact HB.out | apply below_alloc | apply pw_below_drewN | apply below_drew1 | refine below_set ?_ (IsS65.ge HI266.out)) | exact HB.out)⟩⟩
                    · replace c18 := Bool.eq_false_iff.mpr c18
                      subst c18
                      have H1 : (if x7_1.size + t268.size ≤ 9223372036854775807 then (heliographlaw05_FramePlays.j2 kj6 l0 l1 t263 (x7_1 ++ t268) false x9_1 t270 t271) else (none)) = some r := by rw [if_neg (show ¬ (false = true) by decide)] at H; exact H
                      clear H
                      have H := H1
                      clear H1
                      by_cases c19 : x7_1.size + t268.size ≤ 9223372036854775807
                      · rw [if_pos c19] at H
                        have c19b0 := eq_true c19
                        have c19b1 : decide (x7_1.size + t268.size ≤ 9223372036854775807) = true := decide_eq_true c19
                        try have c19b2 : (9223372036854775807 < x7_1.size + t268.size) = False := eq_false (Nat.not_lt.2 c19)
                        have H' := Aside0.mk H
                        clear H
                        go_wp2
                        go_meet
                        case rel => exact ⟨_, (x7_1 ++ t268), (by first | rfl | (simp; done) | (simp [*]; done)), H', ⟨by have := HK1.out; have := HJ6.out; first | omega | exact Nat.le_refl _⟩, ⟨by repeat (first | (with_reducible first | exact HI266.out | apply IsS65.alloc | apply IsS65.drewN | apply IsS65.drew | apply IsS65.set_0 | apply IsS65.set_1) | exact HI266.out)⟩, ⟨by repeat (first | (with_reducible first | exact HB.out | apply below_alloc | apply pw_below_drewN | apply below_drew1 | refine below_set ?_ (IsS65.ge HI266.out)) | exact HB.out)⟩⟩
                      · rw [if_neg c19] at H
                        exact absurd H (by simp)
                  case rest =>
                    clear HC16
                    try clear c1
                    try clear c2
                    try clear p2
                    try clear q2
                    try clear hx2
                    try clear c7
                    try clear c8
                    try clear c8b0
                    try clear c9
                    try clear c10
                    try clear c10b0
                    try clear c11
                    try clear c11b0
                    try clear c14
                    try clear c14b0
                    try clear c14b1
                    try clear c14b2
                    try clear c18
                    try clear c19
                    try clear c19b0
                    try clear c19b1
                    try clear c19b2
                    try clear hx267_0
                    try clear p2
                    try clear p267
                    try clear q267
                    obtain ⟨kq, x7_15, rfl, HA, HJ15, HI266, HB⟩ := hcut
                    cases kq with
                    | zero => exact absurd HA.out (by simp [heliographlaw05_FramePlays.j2])
                    | succ kj15 =>
                      have H := HA.out
                      clear HA
                      simp only [heliographlaw05_FramePlays.j2] at H
                      have HC20 := Aside0.mk H
                      clear H
                      go_upto_if 51 with (fail)
                      go_cut [11] (fun v11 wc => ∃ (kq : Nat) (x11_19 : Int), v11 = .int .i64 x11_19 ∧ Aside0 (heliographlaw05_FramePlays.j3 kq l0 l1 t263 x7_15 x8_1 x9_1 x11_19 t270 t271 = some r) ∧ Aside0 (kq ≤ kj15) ∧ Aside0 (IsS65 w wc g266 t270 t271) ∧ Aside0 (Below w.heap.size w wc))
                      case first =>
                        have H := HC20.out
                        clear HC20
                        by_cases c21 : x9_1 < (l1.length : Int)
                        · rw [if_pos c21] at H
                          have c21b0 : decide (x9_1 < (l1.length : Int)) = true := decide_eq_true c21
                          clear c21
                          (first | rw [c21b0] | (simp only [i64_w, i32_w]; rw [c21b0]) | skip)
                          by_cases c22 : 0 ≤ x9_1
                          · rw [if_pos c22] at H
                            have c22b0 : decide (0 ≤ x9_1) = true := decide_eq_true c22
                            clear c22
                            have H' := Aside0.mk H
                            clear H
                            have p272 : 0 ≤ (x9_1 : Int) := of_decide_eq_true (by first | (with_reducible assumption) | assumption)
                            have q272 : x9_1 < (l1.length : Int) := of_decide_eq_true (by first | (with_reducible assumption) | assumption)
                            obtain ⟨ad272, e272, hx272_0⟩ := Kd.at_int HR1.out x9_1 p272 q272
                            cases e272
                            replace hx272_0 := (HB.out.cell (World.block_lt_of_cell? w _ hx272_0)).trans hx272_0
                            replace p272 := eq_true p272
                            replace q272 := eq_true q272
                            go_wp2
                            go_meet
                            case rel => exact ⟨_, (Go.bits .and .i64 (rd l1 x9_1) 3), (by first | rfl | (simp; done) | (simp [*]; done)), H', ⟨by have := HK1.out; have := HJ6.out; have := HJ15.out; first | omega | exact Nat.le_refl _⟩, ⟨by repeat (first | (with_reducible first | exact HI266.out | apply IsS65.alloc | apply IsS65.drewN | apply IsS65.drew | apply IsS65.set_0 | apply IsS65.set_1) | exact HI266.out)⟩, ⟨by repeat (first | (with_reducible first | exact HB.out | apply below_alloc | apply pw_below_drewN | apply below_drew1 | refine below_set ?_ (IsS65.ge HI266.out)) | exact HB.out)⟩⟩
                          · rw [if_neg c22] at H
                            exact absurd H (by simp)
                        · rw [if_neg c21] at H
                          have c21b0 : decide (x9_1 < (l1.length : Int)) = false := decide_eq_false c21
                          clear c21
                          (first | rw [c21b0] | (simp only [i64_w, i32_w]; rw [c21b0]) | skip)
                          have H' := Aside0.mk H
                          clear H
                          go_wp2
                          go_meet
                          case rel => exact ⟨_, (1), (by first | rfl | (simp; done) | (simp [*]; done)), H', ⟨by have := HK1.out; have := HJ6.out; have := HJ15.out; first | omega | exact Nat.le_refl _⟩, ⟨by repeat (first | (with_reducible first | exact HI266.out | apply IsS65.alloc | apply IsS65.drewN | apply IsS65.drew | apply IsS65.set_0 | apply IsS65.set_1) | exact HI266.out)⟩, ⟨by repeat (first | (with_reducible first | exact HB.out | apply below_alloc | apply pw_below_drewN | apply below_drew1 | refine below_set ?_ (IsS65.ge HI266.out)) | exact HB.out)⟩⟩
                      case rest =>
                        clear HC20
                        try clear c1
                        try clear c2
                        try clear p2
                        try clear q2
                        try clear hx2
                        try clear c7
                        try clear c8
                        try clear c8b0
                        try clear c9
                        try clear c10
                        try clear c10b0
                        try clear c11
                        try clear c11b0
                        try clear c14
                        try clear c14b0
                        try clear c14b1
                        try clear c14b2
                        try clear c18
                        try clear c19
                        try clear c19b0
                        try clear c19b1
                        try clear c19b2
                        try clear c21
                        try clear c21b0
                        try clear c22
                        try clear c22b0
                        try clear hx267_0
                        try clear hx272_0
                        try clear p2
                        try clear p267
                        try clear p272
                        try clear q2
                        try clear q267
                        try clear q272
                        obtain ⟨kq, x11_19, rfl, HA, HJ19, HI266, HB⟩ := hcut
                        cases kq with
                        | zero => exact absurd HA.out (by simp [heliographlaw05_FramePlays.j3])
                        | succ kj19 =>
                          have H := HA.out
                          clear HA
                          simp only [heliographlaw05_FramePlays.j3] at H
                          have H' := Aside0.mk H
                          clear H
                          go_wp2
                          go_loopg [7, 8, 12] kj19 (fun kq v7 v8 v12 w' => ∃ (x7_5 : ByteArray) (x8_5 : Bool) (x12_5 : Int) (x267000_5 : ByteArray) (x267001_5 : Bool), v7 = .string x7_5 ∧ v8 = .bool x8_5 ∧ v12 = .int .i64 x12_5 ∧ Aside0 (heliographlaw05_FramePlays.l1 kq l0 l1 t263 x7_5 x8_5 x9_1 x11_19 x12_5 x267000_5 x267001_5 = some r) ∧ Aside0 (kq ≤ kj19) ∧ Aside0 (IsS65 w w' g266 x267000_5 x267001_5) ∧ Aside0 (Below w.heap.size w w'))
                          case atStart => exact ⟨(x7_15), (x8_1), (0), (t270), (t271), (by first | rfl | (simp; done) | (simp [*]; done)), (by first | rfl | (simp; done) | (simp [*]; done)), (by first | rfl | (simp; done) | (simp [*]; done)), H', ⟨Nat.le_refl _⟩, ⟨by repeat (first | (with_reducible first | exact HI266.out | apply IsS65.alloc | apply IsS65.drewN | apply IsS65.drew | apply IsS65.set_0 | apply IsS65.set_1) | exact HI266.out)⟩, ⟨by repeat (first | (with_reducible first | exact HB.out | apply below_alloc | apply pw_below_drewN | apply below_drew1 | refine below_set ?_ (IsS65.ge HI266.out)) | exact HB.out)⟩⟩
                          case round =>
                            clear H'
                            try clear c1
                            try clear c2
                            try clear p2
                            try clear q2
                            try clear hx2
                            try clear c7
                            try clear c8
                            try clear c8b0
                            try clear c9
                            try clear c10
                            try clear c10b0
                            try clear c11
                            try clear c11b0
                            try clear c14
                            try clear c14b0
                            try clear c14b1
                            try clear c14b2
                            try clear c18
                            try clear c19
                            try clear c19b0
                            try clear c19b1
                            try clear c19b2
                            try clear c21
                            try clear c21b0
                            try clear c22
                            try clear c22b0
                            try clear hx267_0
                            try clear hx272_0
                            try clear p2
                            try clear p267
                            try clear p272
                            try clear q2
                            try clear q267
                            try clear q272
                            obtain ⟨x7_5, x8_5, x12_5, x267000_5, x267001_5, rfl, rfl, rfl, HA, HK5, HI266, HB⟩ := hrel
                            cases gk with
                            | zero => exact absurd HA.out (by simp [heliographlaw05_FramePlays.l1])
                            | succ k5 =>
                              have H := HA.out
                              clear HA
                              simp only [heliographlaw05_FramePlays.l1] at H
                              by_cases c23 : x12_5 < x11_19
                              · rw [if_pos c23] at H
                                have c23b0 : decide (x12_5 < x11_19) = true := decide_eq_true c23
                                clear c23
                                replace H := Option.bind_eq_some_iff.mp H
                                obtain ⟨⟨t273, t274, t275, t276⟩, A240, H⟩ := H
                                replace H : ((heliographref05_Get.f k5 x7_5 0).bind fun bt277 => (if bt277.2.2 = 0 then (heliographlaw05_FramePlays.j5 k5 l0 l1 t263 x7_5 x8_5 x9_1 x11_19 x12_5 t273 t274 bt277.1 bt277.2.1 bt277.2.2 (!x8_5) t275 t276) else (heliographlaw05_FramePlays.j5 k5 l0 l1 t263 x7_5 x8_5 x9_1 x11_19 x12_5 t273 t274 bt277.1 bt277.2.1 bt277.2.2 false t275 t276))) = some r := H
                                have A24 := Aside0.mk A240
                                clear A240
                                replace H := Option.bind_eq_some_iff.mp H
                                obtain ⟨⟨t277, t278, t279⟩, A250, H⟩ := H
                                replace H : (if t279 = 0 then (heliographlaw05_FramePlays.j5 k5 l0 l1 t263 x7_5 x8_5 x9_1 x11_19 x12_5 t273 t274 t277 t278 t279 (!x8_5) t275 t276) else (heliographlaw05_FramePlays.j5 k5 l0 l1 t263 x7_5 x8_5 x9_1 x11_19 x12_5 t273 t274 t277 t278 t279 false t275 t276)) = some r := H
                                have A25 := Aside0.mk A250
                                clear A250
                                have HC26 := Aside0.mk H
                                clear H
                                go_upto_region 23 with (first | ((with_reducible refine gate_callee (f := 28) rfl ?_); refine goesL_ (some 64) rfl rfl Tryd.func28 (by kernel_rfl) rfl #[.pointer (some ⟨g266, 0, none⟩)] rfl (by (try simp only [List.map_toArray, List.map_cons, List.map_nil]); first | done | rfl | (simp only [List.length_drop, List.length_take]; rfl)) ?_; (with_reducible refine (frame_Scanner_Next.calls k5 g266 x267000_5 x267001_5 t273 t274 t275 t276 w _ ?side1 ?side2 ?side3 A24.out).mono ?_); (case side1 => repeat (first | (with_reducible first | exact HI266.out | apply IsS65.alloc | apply IsS65.drewN | apply IsS65.drew | apply IsS65.set_0 | apply IsS65.set_1) | exact HI266.out)); (case side2 => repeat (first | (with_reducible first | exact HB.out | apply below_alloc | apply pw_below_drewN | apply below_drew1 | refine below_set ?_ (IsS65.ge HI266.out)) | exact HB.out)); (case side3 => exact HTB.out); rintro e w27 ⟨rfl, hi, hb, hk⟩; refine ⟨_, rfl, ?_⟩; have n0_ := Aside0.mk (hb); have n1_ := Aside0.mk (hi); clear HB; clear HI266; have HB := n0_; have HI266 := n1_; clear n0_ n1_; (try clear hb); (try clear hb2); (try clear hk); (try clear hi)) | ((with_reducible refine gate_callee (f := 29) rfl ?_); refine goesL_ (some 69) rfl rfl Tryd.func29 (by kernel_rfl) rfl #[.string x7_5, .int .i64 0] rfl (by (try simp only [List.map_toArray, List.map_cons, List.map_nil]); first | done | rfl | (simp only [List.length_drop, List.length_take]; rfl)) ?_; (with_reducible refine (heliographref05_Get.calls k5 x7_5 0 t277 t278 t279 _ A25.out).mono ?_); rintro e w28 ⟨rfl, hb⟩; refine ⟨_, rfl, ?_⟩; have n0_ := Aside0.mk (IsS65.below (by repeat (first | (with_reducible first | exact HI266.out | apply IsS65.alloc | apply IsS65.drewN | apply IsS65.drew | apply IsS65.set_0 | apply IsS65.set_1) | exact HI266.out)) hb); have n1_ := Aside0.mk (below_step (by repeat (first | (with_reducible first | exact HB.out | apply below_alloc | apply pw_below_drewN | apply below_drew1 | refine below_set ?_ (IsS65.ge HI266.out)) | exact HB.out)) hb); clear HI266; clear HB; have HI266 := n0_; have HB := n1_; clear n0_ n1_; (try clear hb); (try clear hb2); (try clear hk); (try clear hi)))
                                (try simp only [Act.put, List.setIfInBounds_toArray, List.set_cons_zero, List.set_cons_succ])
                                go_cut [18] (fun v18 wc => ∃ (kq : Nat) (x18_25 : Bool), v18 = .bool x18_25 ∧ Aside0 (heliographlaw05_FramePlays.j5 kq l0 l1 t263 x7_5 x8_5 x9_1 x11_19 x12_5 t273 t274 t277 t278 t279 x18_25 t275 t276 = some r) ∧ Aside0 (kq ≤ k5) ∧ Aside0 (IsS65 w wc g266 t275 t276) ∧ Aside0 (Below w.heap.size w wc))
                                case first =>
                                  have H := HC26.out
                                  clear HC26
                                  by_cases c29 : t279 = 0
                                  · rw [if_pos c29] at H
                                    have c29b0 : (t279 == 0) = true := beq_iff_eq.mpr c29
                                    have c29b1 : (t279 != 0) = false := bne_eq_false_iff_eq.mpr c29
                                    clear c29
                                    (first | rw [c29b0] | (simp only [i64_w, i32_w]; rw [c29b0]) | skip)
                                    have H' := Aside0.mk H
                                    clear H
                                    go_wp2
                                    go_meet
                                    case rel => exact ⟨_, (!x8_5), (by first | rfl | (simp; done) | (simp [*]; done)), H', ⟨by have := HK1.out; have := HJ6.out; have := HJ15.out; have := HJ19.out; have := HK5.out; first | omega | exact Nat.le_refl _⟩, ⟨by repeat (first | (with_reducible first | exact HI266.out | apply IsS65.alloc | apply IsS65.drewN | apply IsS65.drew | apply IsS65.set_0 | apply IsS65.set_1) | exact HI266.out)⟩, ⟨by repeat (first | (with_reducible first | exact HB.out | apply below_alloc | apply pw_below_drewN | apply below_drew1 | refine below_set ?_ (IsS65.ge HI266.out)) | exact HB.out)⟩⟩
                                  · rw [if_neg c29] at H
                                    have c29b0 : (t279 == 0) = false := beq_eq_false_iff_ne.mpr c29
                                    have c29b1 : (t279 != 0) = true := bne_iff_ne.mpr c29
                                    (first | rw [c29b0] | (simp only [i64_w, i32_w]; rw [c29b0]) | skip)
                                    have H' := Aside0.mk H
                                    clear H
                                    go_wp2
                                    go_meet
                                    case rel => exact ⟨_, (false), (by first | rfl | (simp; done) | (simp [*]; done)), H', ⟨by have := HK1.out; have := HJ6.out; have := HJ15.out; have := HJ19.out; have := HK5.out; first | omega | exact Nat.le_refl _⟩, ⟨by repeat (first | (with_reducible first | exact HI266.out | apply IsS65.alloc | apply IsS65.drewN | apply IsS65.drew | apply IsS65.set_0 | apply IsS65.set_1) | exact HI266.out)⟩, ⟨by repeat (first | (with_reducible first | exact HB.out | apply below_alloc | apply pw_below_drewN | apply below_drew1 | refine below_set ?_ (IsS65.ge HI266.out)) | exact HB.out)⟩⟩
                                case rest =>
                                  clear HC26
                                  try clear c1
                                  try clear c2
                                  try clear p2
                                  try clear q2
                                  try clear hx2
                                  try clear c7
                                  try clear c8
                                  try clear c8b0
                                  try clear c9
                                  try clear c10
                                  try clear c10b0
                                  try clear c11
                                  try clear c11b0
                                  try clear c14
                                  try clear c14b0
                                  try clear c14b1
                                  try clear c14b2
                                  try clear c18
                                  try clear c19
                                  try clear c19b0
                                  try clear c19b1
                                  try clear c19b2
                                  try clear c21
                                  try clear c21b0
                                  try clear c22
                                  try clear c22b0
                                  try clear c23
                                  try clear c23b0
                                  try clear c24
                                  try clear c25
                                  try clear c26
                                  try clear p26
                                  try clear q26
                                  try clear hx26
                                  try clear c27
                                  try clear p27
                                  try clear q27
                                  try clear hx27
                                  try clear c28
                                  try clear c29
                                  try clear c29b0
                                  try clear c29b1
                                  try clear hx267_0
                                  try clear hx272_0
                                  try clear p2
                                  try clear p267
                                  try clear p272
                                  try clear q2
                                  try clear q267
                                  try clear q272
                                  obtain ⟨kq, x18_25, rfl, HA, HJ25, HI266, HB⟩ := hcut
                                  cases kq with
                                  | zero => exact absurd HA.out (by simp [heliographlaw05_FramePlays.j5])
                                  | succ kj25 =>
                                    have H := HA.out
                                    clear HA
                                    simp only [heliographlaw05_FramePlays.j5] at H
                                    have HC30 := Aside0.mk H
                                    clear H
                                    go_upto_if 79 with (fail)
                                    go_cut [7] (fun v7 wc => ∃ (kq : Nat) (x7_29 : ByteArray), v7 = .string x7_29 ∧ Aside0 (heliographlaw05_FramePlays.j6 kq l0 l1 t263 x7_29 x8_5 x9_1 x11_19 x12_5 t273 t274 t277 t279 x18_25 t275 t276 = some r) ∧ Aside0 (kq ≤ kj25) ∧ Aside0 (IsS65 w wc g266 t275 t276) ∧ Aside0 (Below w.heap.size w wc))
                                    case first =>
                                      have H := HC30.out
                                      clear HC30
                                      by_cases c31 : x18_25 = true
                                      · subst c31
                                        have H1 : (if 0 ≤ t278 then (if t278 ≤ (x7_5.size : Int) then (heliographlaw05_FramePlays.j6 kj25 l0 l1 t263 (x7_5.extract (t278 : Int).toNat x7_5.size) x8_5 x9_1 x11_19 x12_5 t273 t274 t277 t279 true t275 t276) else (none)) else (none)) = some r := by rw [if_pos rfl] at H; exact H
                                        clear H
                                        have H := H1
                                        clear H1
                                        by_cases c32 : 0 ≤ t278
                                        · rw [if_pos c32] at H
                                          have c32b0 := eq_true c32
                                          have c32b1 : decide (0 ≤ t278) = true := decide_eq_true c32
                                          clear c32
                                          by_cases c33 : t278 ≤ (x7_5.size : Int)
                                          · rw [if_pos c33] at H
                                            have c33b0 := eq_true c33
                                            have c33b1 : decide (t278 ≤ (x7_5.size : Int)) = true := decide_eq_true c33
                                            clear c33
                                            have H' := Aside0.mk H
                                            clear H
                                            go_wp2
                                            go_meet
                                            case rel => exact ⟨_, (x7_5.extract (t278 : Int).toNat x7_5.size), (by first | rfl | (simp; done) | (simp [*]; done)), H', ⟨by have := HK1.out; have := HJ6.out; have := HJ15.out; have := HJ19.out; have := HK5.out; have := HJ25.out; first | omega | exact Nat.le_refl _⟩, ⟨by repeat (first | (with_reducible first | exact HI266.out | apply IsS65.alloc | apply IsS65.drewN | apply IsS65.drew | apply IsS65.set_0 | apply IsS65.set_1) | exact HI266.out)⟩, ⟨by repeat (first | (with_reducible first | exact HB.out | apply below_alloc | apply pw_below_drewN | apply below_drew1 | refine below_set ?_ (IsS65.ge HI266.out)) | exact HB.out)⟩⟩
                                          · rw [if_neg c33] at H
                                            exact absurd H (by simp)
                                        · rw [if_neg c32] at H
                                          exact absurd H (by simp)
                                      · replace c31 := Bool.eq_false_iff.mpr c31
                                        subst c31
                                        have H1 : (heliographlaw05_FramePlays.j6 kj25 l0 l1 t263 x7_5 x8_5 x9_1 x11_19 x12_5 t273 t274 t277 t279 false t275 t276) = some r := by rw [if_neg (show ¬ (false = true) by decide)] at H; exact H
                                        clear H
                                        have H := H1
                                        clear H1
                                        have H' := Aside0.mk H
                                        clear H
                                        go_wp2
                                        go_meet
                                        case rel => exact ⟨_, (x7_5), (by first | rfl | (simp; done) | (simp [*]; done)), H', ⟨by have := HK1.out; have := HJ6.out; have := HJ15.out; have := HJ19.out; have := HK5.out; have := HJ25.out; first | omega | exact Nat.le_refl _⟩, ⟨by repeat (first | (with_reducible first | exact HI266.out | apply IsS65.alloc | apply IsS65.drewN | apply IsS65.drew | apply IsS65.set_0 | apply IsS65.set_1) | exact HI266.out)⟩, ⟨by repeat (first | (with_reducible first | exact HB.out | apply below_alloc | apply pw_below_drewN | apply below_drew1 | refine below_set ?_ (IsS65.ge HI266.out)) | exact HB.out)⟩⟩
                                    case rest =>
                                      clear HC30
                                      try clear c1
                                      try clear c2
                                      try clear p2
                                      try clear q2
                                      try clear hx2
                                      try clear c3
                                      try clear c7
                                      try clear c8
                                      try clear c8b0
                                      try clear c9
                                      try clear c10
                                      try clear c10b0
                                      try clear c11
                                      try clear c11b0
                                      try clear c14
                                      try clear c14b0
                                      try clear c14b1
                                      try clear c14b2
                                      try clear c18
                                      try clear c19
                                      try clear c19b0
                                      try clear c19b1
                                      try clear c19b2
                                      try clear c21
                                      try clear c21b0
                                      try clear c22
                                      try clear c22b0
                                      try clear c23
                                      try clear c23b0
                                      try clear c24
                                      try clear c25
                                      try clear c26
                                      try clear p26
                                      try clear q26
                                      try clear hx26
                                      try clear c27
                                      try clear p27
                                      try clear q27
                                      try clear hx27
                                      try clear c28
                                      try clear c29
                                      try clear c29b0
                                      try clear c29b1
                                      try clear c31
                                      try clear c32
                                      try clear c32b0
                                      try clear c32b1
                                      try clear c33
                                      try clear c33b0
                                      try clear c33b1
                                      try clear hx267_0
                                      try clear hx272_0
                                      try clear p2
                                      try clear p26
                                      try clear p267
                                      try clear p27
                                      try clear p272
                                      try clear q2
                                      try clear q26
                                      try clear q267
                                      try clear q27
                                      try clear q272
                                      obtain ⟨kq, x7_29, rfl, HA, HJ29, HI266, HB⟩ := hcut
                                      cases kq with
                                      | zero => exact absurd HA.out (by simp [heliographlaw05_FramePlays.j6])
                                      | succ kj29 =>
                                        have H := HA.out
                                        clear HA
                                        simp only [heliographlaw05_FramePlays.j6] at H
                                        have HC34 := Aside0.mk H
                                        clear H
                                        go_upto_region 26 with (fail)
                                        go_cut [88] (fun v88 wc => ∃ (kq : Nat) (x88_33 : Bool), v88 = .bool x88_33 ∧ Aside0 (heliographlaw05_FramePlays.j7 kq l0 l1 t263 x7_29 x8_5 x9_1 x11_19 x12_5 t273 t274 t277 x18_25 x88_33 t275 t276 = some r) ∧ Aside0 (kq ≤ kj29) ∧ Aside0 (IsS65 w wc g266 t275 t276) ∧ Aside0 (Below w.heap.size w wc))
                                        case first =>
                                          have H := HC34.out
                                          clear HC34
                                          by_cases c35 : t279 = 3
                                          · rw [if_pos c35] at H
                                            have c35b0 : (t279 == 3) = true := beq_iff_eq.mpr c35
                                            have c35b1 : (t279 != 3) = false := bne_eq_false_iff_eq.mpr c35
                                            clear c35
                                            (first | rw [c35b0] | (simp only [i64_w, i32_w]; rw [c35b0]) | skip)
                                            have H' := Aside0.mk H
                                            clear H
                                            go_wp2
                                            go_meet
                                            case rel => exact ⟨_, (!x8_5), (by first | rfl | (simp; done) | (simp [*]; done)), H', ⟨by have := HK1.out; have := HJ6.out; have := HJ15.out; have := HJ19.out; have := HK5.out; have := HJ25.out; have := HJ29.out; first | omega | exact Nat.le_refl _⟩, ⟨by repeat (first | (with_reducible first | exact HI266.out | apply IsS65.alloc | apply IsS65.drewN | apply IsS65.drew | apply IsS65.set_0 | apply IsS65.set_1) | exact HI266.out)⟩, ⟨by repeat (first | (with_reducible first | exact HB.out | apply below_alloc | apply pw_below_drewN | apply below_drew1 | refine below_set ?_ (IsS65.ge HI266.out)) | exact HB.out)⟩⟩
                                          · rw [if_neg c35] at H
                                            have c35b0 : (t279 == 3) = false := beq_eq_false_iff_ne.mpr c35
                                            have c35b1 : (t279 != 3) = true := bne_iff_ne.mpr c35
                                            (first | rw [c35b0] | (simp only [i64_w, i32_w]; rw [c35b0]) | skip)
                                            have H' := Aside0.mk H
                                            clear H
                                            go_wp2
                                            go_meet
                                            case rel => exact ⟨_, (false), (by first | rfl | (simp; done) | (simp [*]; done)), H', ⟨by have := HK1.out; have := HJ6.out; have := HJ15.out; have := HJ19.out; have := HK5.out; have := HJ25.out; have := HJ29.out; first | omega | exact Nat.le_refl _⟩, ⟨by repeat (first | (with_reducible first | exact HI266.out | apply IsS65.alloc | apply IsS65.drewN | apply IsS65.drew | apply IsS65.set_0 | apply IsS65.set_1) | exact HI266.out)⟩, ⟨by repeat (first | (with_reducible first | exact HB.out | apply below_alloc | apply pw_below_drewN | apply below_drew1 | refine below_set ?_ (IsS65.ge HI266.out)) | exact HB.out)⟩⟩
                                        case rest =>
                                          clear HC34
                                          try clear c1
                                          try clear c2
                                          try clear p2
                                          try clear q2
                                          try clear hx2
                                          try clear c3
                                          try clear c7
                                          try clear c8
                                          try clear c8b0
                                          try clear c9
                                          try clear c10
                                          try clear c10b0
                                          try clear c11
                                          try clear c11b0
                                          try clear c14
                                          try clear c14b0
                                          try clear c14b1
                                          try clear c14b2
                                          try clear c18
                                          try clear c19
                                          try clear c19b0
                                          try clear c19b1
                                          try clear c19b2
                                          try clear c21
                                          try clear c21b0
                                          try clear c22
                                          try clear c22b0
                                          try clear c23
                                          try clear c23b0
                                          try clear c24
                                          try clear c25
                                          try clear c26
                                          try clear p26
                                          try clear q26
                                          try clear hx26
                                          try clear c27
                                          try clear p27
                                          try clear q27
                                          try clear hx27
                                          try clear c28
                                          try clear c29
                                          try clear c29b0
                                          try clear c29b1
                                          try clear c31
                                          try clear c32
                                          try clear c32b0
                                          try clear c32b1
                                          try clear c33
                                          try clear c33b0
                                          try clear c33b1
                                          try clear c35
                                          try clear c35b0
                                          try clear c35b1
                                          try clear hx267_0
                                          try clear hx272_0
                                          try clear p2
                                          try clear p26
                                          try clear p267
                                          try clear p27
                                          try clear p272
                                          try clear q2
                                          try clear q26
                                          try clear q267
                                          try clear q27
                                          try clear q272
                                          obtain ⟨kq, x88_33, rfl, HA, HJ33, HI266, HB⟩ := hcut
                                          cases kq with
                                          | zero => exact absurd HA.out (by simp [heliographlaw05_FramePlays.j7])
                                          | succ kj33 =>
                                            have H := HA.out
                                            clear HA
                                            simp only [heliographlaw05_FramePlays.j7] at H
                                            by_cases c36 : x88_33 = true
                                            · subst c36
                                              have H1 : (if (t274 != x18_25) = true then (some false) else (if x18_25 = true then (if t273.toList = t277.toList then (heliographlaw05_FramePlays.l1 kj33 l0 l1 t263 (⟨#[]⟩ : ByteArray) true x9_1 x11_19 (wrap64 (x12_5 + 1)) t275 t276) else (some false)) else (if t273.toList = ([] : List UInt8) then (heliographlaw05_FramePlays.l1 kj33 l0 l1 t263 (⟨#[]⟩ : ByteArray) true x9_1 x11_19 (wrap64 (x12_5 + 1)) t275 t276) else (some false)))) = some r := by rw [if_pos rfl] at H; exact H
                                              clear H
                                              have H := H1
                                              clear H1
                                              by_cases c37 : (t274 != x18_25) = true
                                              · rw [if_pos c37] at H
                                                have c37b0 : (t274 != x18_25) = true := c37
                                                (try (have c37b1 : decide (t274 = x18_25) = false := by simpa using c37))
                                                (try (have c37b2 : (t274 == x18_25) = false := by simpa using c37))
                                                (try (have c37b3 : ¬ (t274 = x18_25) := by simpa using c37))
                                                clear c37
                                                obtain rfl := Option.some.inj H
                                                go_wp2
                                                go_ret
                                                exact ⟨by first | rfl | (simp [errW_none, errW_some] <;> rfl) | (simp [*, errW_none, errW_some] <;> rfl), by repeat (first | (with_reducible first | exact HB.out | apply below_alloc | apply pw_below_drewN | apply below_drew1 | refine below_set ?_ (IsS65.ge HI266.out)) | exact HB.out)⟩
                                              · rw [if_neg c37] at H
                                                have c37b0 : (t274 != x18_25) = false := by simpa using c37
                                                (try (have c37b1 : decide (t274 = x18_25) = true := by simpa using c37))
                                                (try (have c37b2 : (t274 == x18_25) = true := by simpa using c37))
                                                clear c37
                                                by_cases c38 : x18_25 = true
                                                · subst c38
                                                  have H1 : (if t273.toList = t277.toList then (heliographlaw05_FramePlays.l1 kj33 l0 l1 t263 (⟨#[]⟩ : ByteArray) true x9_1 x11_19 (wrap64 (x12_5 + 1)) t275 t276) else (some false)) = some r := by rw [if_pos rfl] at H; exact H
                                                  clear H
                                                  have H := H1
                                                  clear H1
                                                  by_cases c39 : t273.toList = t277.toList
                                                  · rw [if_pos c39] at H
                                                    have c39b0 : (t273.toList == t277.toList) = true := beq_iff_eq.mpr c39
                                                    have c39b1 : (t273.toList != t277.toList) = false := bne_eq_false_iff_eq.mpr c39
                                                    clear c39
                                                    have H' := Aside0.mk H
                                                    clear H
                                                    go_wp2
                                                    go_roundg kj33
                                                    case measure => have := HK1.out; have := HJ6.out; have := HJ15.out; have := HJ19.out; have := HK5.out; have := HJ25.out; have := HJ29.out; have := HJ33.out; omega
                                                    case rel => exact ⟨((⟨#[]⟩ : ByteArray)), (true), (wrap64 (x12_5 + 1)), (t275), (t276), (by first | rfl | (simp; done) | (simp [*]; done)), (by first | rfl | (simp; done) | (simp [*]; done)), (by first | rfl | (simp; done) | (simp [*]; done)), H', ⟨by have := HK1.out; have := HJ6.out; have := HJ15.out; have := HJ19.out; have := HK5.out; have := HJ25.out; have := HJ29.out; have := HJ33.out; omega⟩, ⟨by repeat (first | (with_reducible first | exact HI266.out | apply IsS65.alloc | apply IsS65.drewN | apply IsS65.drew | apply IsS65.set_0 | apply IsS65.set_1) | exact HI266.out)⟩, ⟨by repeat (first | (with_reducible first | exact HB.out | apply below_alloc | apply pw_below_drewN | apply below_drew1 | refine below_set ?_ (IsS65.ge HI266.out)) | exact HB.out)⟩⟩
                                                  · rw [if_neg c39] at H
                                                    have c39b0 : (t273.toList == t277.toList) = false := beq_eq_false_iff_ne.mpr c39
                                                    have c39b1 : (t273.toList != t277.toList) = true := bne_iff_ne.mpr c39
                                                    obtain rfl := Option.some.inj H
                                                    go_wp2
                                                    go_ret
                                                    exact ⟨by first | rfl | (simp [errW_none, errW_some] <;> rfl) | (simp [*, errW_none, errW_some] <;> rfl), by repeat (first | (with_reducible first | exact HB.out | apply below_alloc | apply pw_below_drewN | apply below_drew1 | refine below_set ?_ (IsS65.ge HI266.out)) | exact HB.out)⟩
                                                · replace c38 := Bool.eq_false_iff.mpr c38
                                                  subst c38
                                                  have H1 : (if t273.toList = ([] : List UInt8) then (heliographlaw05_FramePlays.l1 kj33 l0 l1 t263 (⟨#[]⟩ : ByteArray) true x9_1 x11_19 (wrap64 (x12_5 + 1)) t275 t276) else (some false)) = some r := by rw [if_neg (show ¬ (false = true) by decide)] at H; exact H
                                                  clear H
                                                  have H := H1
                                                  clear H1
                                                  by_cases c40 : t273.toList = ([] : List UInt8)
                                                  · rw [if_pos c40] at H
                                                    have c40b0 : (t273.toList == ([] : List UInt8)) = true := beq_iff_eq.mpr c40
                                                    have c40b1 : (t273.toList != ([] : List UInt8)) = false := bne_eq_false_iff_eq.mpr c40
                                                    clear c40
                                                    have H' := Aside0.mk H
                                                    clear H
                                                    go_wp2
                                                    go_roundg kj33
                                                    case measure => have := HK1.out; have := HJ6.out; have := HJ15.out; have := HJ19.out; have := HK5.out; have := HJ25.out; have := HJ29.out; have := HJ33.out; omega
                                                    case rel => exact ⟨((⟨#[]⟩ : ByteArray)), (true), (wrap64 (x12_5 + 1)), (t275), (t276), (by first | rfl | (simp; done) | (simp [*]; done)), (by first | rfl | (simp; done) | (simp [*]; done)), (by first | rfl | (simp; done) | (simp [*]; done)), H', ⟨by have := HK1.out; have := HJ6.out; have := HJ15.out; have := HJ19.out; have := HK5.out; have := HJ25.out; have := HJ29.out; have := HJ33.out; omega⟩, ⟨by repeat (first | (with_reducible first | exact HI266.out | apply IsS65.alloc | apply IsS65.drewN | apply IsS65.drew | apply IsS65.set_0 | apply IsS65.set_1) | exact HI266.out)⟩, ⟨by repeat (first | (with_reducible first | exact HB.out | apply below_alloc | apply pw_below_drewN | apply below_drew1 | refine below_set ?_ (IsS65.ge HI266.out)) | exact HB.out)⟩⟩
                                                  · rw [if_neg c40] at H
                                                    have c40b0 : (t273.toList == ([] : List UInt8)) = false := beq_eq_false_iff_ne.mpr c40
                                                    have c40b1 : (t273.toList != ([] : List UInt8)) = true := bne_iff_ne.mpr c40
                                                    obtain rfl := Option.some.inj H
                                                    go_wp2
                                                    go_ret
                                                    exact ⟨by first | rfl | (simp [errW_none, errW_some] <;> rfl) | (simp [*, errW_none, errW_some] <;> rfl), by repeat (first | (with_reducible first | exact HB.out | apply below_alloc | apply pw_below_drewN | apply below_drew1 | refine below_set ?_ (IsS65.ge HI266.out)) | exact HB.out)⟩
                                            · replace c36 := Bool.eq_false_iff.mpr c36
                                              subst c36
                                              have H1 : (if (t274 != x18_25) = true then (some false) else (if x18_25 = true then (if t273.toList = t277.toList then (heliographlaw05_FramePlays.l1 kj33 l0 l1 t263 x7_29 x8_5 x9_1 x11_19 (wrap64 (x12_5 + 1)) t275 t276) else (some false)) else (if t273.toList = ([] : List UInt8) then (heliographlaw05_FramePlays.l1 kj33 l0 l1 t263 x7_29 x8_5 x9_1 x11_19 (wrap64 (x12_5 + 1)) t275 t276) else (some false)))) = some r := by rw [if_neg (show ¬ (false = true) by decide)] at H; exact H
                                              clear H
                                              have H := H1
                                              clear H1
                                              by_cases c41 : (t274 != x18_25) = true
                                              · rw [if_pos c41] at H
                                                have c41b0 : (t274 != x18_25) = true := c41
                                                (try (have c41b1 : decide (t274 = x18_25) = false := by simpa using c41))
                                                (try (have c41b2 : (t274 == x18_25) = false := by simpa using c41))
                                                (try (have c41b3 : ¬ (t274 = x18_25) := by simpa using c41))
                                                clear c41
                                                obtain rfl := Option.some.inj H
                                                go_wp2
                                                go_ret
                                                exact ⟨by first | rfl | (simp [errW_none, errW_some] <;> rfl) | (simp [*, errW_none, errW_some] <;> rfl), by repeat (first | (with_reducible first | exact HB.out | apply below_alloc | apply pw_below_drewN | apply below_drew1 | refine below_set ?_ (IsS65.ge HI266.out)) | exact HB.out)⟩
                                              · rw [if_neg c41] at H
                                                have c41b0 : (t274 != x18_25) = false := by simpa using c41
                                                (try (have c41b1 : decide (t274 = x18_25) = true := by simpa using c41))
                                                (try (have c41b2 : (t274 == x18_25) = true := by simpa using c41))
                                                clear c41
                                                by_cases c42 : x18_25 = true
                                                · subst c42
                                                  have H1 : (if t273.toList = t277.toList then (heliographlaw05_FramePlays.l1 kj33 l0 l1 t263 x7_29 x8_5 x9_1 x11_19 (wrap64 (x12_5 + 1)) t275 t276) else (some false)) = some r := by rw [if_pos rfl] at H; exact H
                                                  clear H
                                                  have H := H1
                                                  clear H1
                                                  by_cases c43 : t273.toList = t277.toList
                                                  · rw [if_pos c43] at H
                                                    have c43b0 : (t273.toList == t277.toList) = true := beq_iff_eq.mpr c43
                                                    have c43b1 : (t273.toList != t277.toList) = false := bne_eq_false_iff_eq.mpr c43
                                                    clear c43
                                                    have H' := Aside0.mk H
                                                    clear H
                                                    go_wp2
                                                    go_roundg kj33
                                                    case measure => have := HK1.out; have := HJ6.out; have := HJ15.out; have := HJ19.out; have := HK5.out; have := HJ25.out; have := HJ29.out; have := HJ33.out; omega
                                                    case rel => exact ⟨(x7_29), (x8_5), (wrap64 (x12_5 + 1)), (t275), (t276), (by first | rfl | (simp; done) | (simp [*]; done)), (by first | rfl | (simp; done) | (simp [*]; done)), (by first | rfl | (simp; done) | (simp [*]; done)), H', ⟨by have := HK1.out; have := HJ6.out; have := HJ15.out; have := HJ19.out; have := HK5.out; have := HJ25.out; have := HJ29.out; have := HJ33.out; omega⟩, ⟨by repeat (first | (with_reducible first | exact HI266.out | apply IsS65.alloc | apply IsS65.drewN | apply IsS65.drew | apply IsS65.set_0 | apply IsS65.set_1) | exact HI266.out)⟩, ⟨by repeat (first | (with_reducible first | exact HB.out | apply below_alloc | apply pw_below_drewN | apply below_drew1 | refine below_set ?_ (IsS65.ge HI266.out)) | exact HB.out)⟩⟩
                                                  · rw [if_neg c43] at H
                                                    have c43b0 : (t273.toList == t277.toList) = false := beq_eq_false_iff_ne.mpr c43
                                                    have c43b1 : (t273.toList != t277.toList) = true := bne_iff_ne.mpr c43
                                                    obtain rfl := Option.some.inj H
                                                    go_wp2
                                                    go_ret
                                                    exact ⟨by first | rfl | (simp [errW_none, errW_some] <;> rfl) | (simp [*, errW_none, errW_some] <;> rfl), by repeat (first | (with_reducible first | exact HB.out | apply below_alloc | apply pw_below_drewN | apply below_drew1 | refine below_set ?_ (IsS65.ge HI266.out)) | exact HB.out)⟩
                                                · replace c42 := Bool.eq_false_iff.mpr c42
                                                  subst c42
                                                  have H1 : (if t273.toList = ([] : List UInt8) then (heliographlaw05_FramePlays.l1 kj33 l0 l1 t263 x7_29 x8_5 x9_1 x11_19 (wrap64 (x12_5 + 1)) t275 t276) else (some false)) = some r := by rw [if_neg (show ¬ (false = true) by decide)] at H; exact H
                                                  clear H
                                                  have H := H1
                                                  clear H1
                                                  by_cases c44 : t273.toList = ([] : List UInt8)
                                                  · rw [if_pos c44] at H
                                                    have c44b0 : (t273.toList == ([] : List UInt8)) = true := beq_iff_eq.mpr c44
                                                    have c44b1 : (t273.toList != ([] : List UInt8)) = false := bne_eq_false_iff_eq.mpr c44
                                                    clear c44
                                                    have H' := Aside0.mk H
                                                    clear H
                                                    go_wp2
                                                    go_roundg kj33
                                                    case measure => have := HK1.out; have := HJ6.out; have := HJ15.out; have := HJ19.out; have := HK5.out; have := HJ25.out; have := HJ29.out; have := HJ33.out; omega
                                                    case rel => exact ⟨(x7_29), (x8_5), (wrap64 (x12_5 + 1)), (t275), (t276), (by first | rfl | (simp; done) | (simp [*]; done)), (by first | rfl | (simp; done) | (simp [*]; done)), (by first | rfl | (simp; done) | (simp [*]; done)), H', ⟨by have := HK1.out; have := HJ6.out; have := HJ15.out; have := HJ19.out; have := HK5.out; have := HJ25.out; have := HJ29.out; have := HJ33.out; omega⟩, ⟨by repeat (first | (with_reducible first | exact HI266.out | apply IsS65.alloc | apply IsS65.drewN | apply IsS65.drew | apply IsS65.set_0 | apply IsS65.set_1) | exact HI266.out)⟩, ⟨by repeat (first | (with_reducible first | exact HB.out | apply below_alloc | apply pw_below_drewN | apply below_drew1 | refine below_set ?_ (IsS65.ge HI266.out)) | exact HB.out)⟩⟩
                                                  · rw [if_neg c44] at H
                                                    have c44b0 : (t273.toList == ([] : List UInt8)) = false := beq_eq_false_iff_ne.mpr c44
                                                    have c44b1 : (t273.toList != ([] : List UInt8)) = true := bne_iff_ne.mpr c44
                                                    obtain rfl := Option.some.inj H
                                                    go_wp2
                                                    go_ret
                                                    exact ⟨by first | rfl | (simp [errW_none, errW_some] <;> rfl) | (simp [*, errW_none, errW_some] <;> rfl), by repeat (first | (with_reducible first | exact HB.out | apply below_alloc | apply pw_below_drewN | apply below_drew1 | refine below_set ?_ (IsS65.ge HI266.out)) | exact HB.out)⟩
                              · rw [if_neg c23] at H
                                have c23b0 : decide (x12_5 < x11_19) = false := decide_eq_false c23
                                clear c23
                                replace H := Option.bind_eq_some_iff.mp H
                                obtain ⟨⟨t280, t281, t282⟩, A450, H⟩ := H
                                replace H : (if t280 = (x7_5.size : Int) then ((frame_Scanner_Bad.f t281 t282).bind fun bt283 => (if (bt283.1 != x8_5) = true then (some false) else (heliographlaw05_FramePlays.l0 k5 l0 l1 t263 x7_5 x8_5 (wrap64 (x9_1 + 1)) bt283.2.1 bt283.2.2))) else (some false)) = some r := H
                                have A45 := Aside0.mk A450
                                clear A450
                                by_cases c46 : t280 = (x7_5.size : Int)
                                · rw [if_pos c46] at H
                                  have c46b0 : (t280 == (x7_5.size : Int)) = true := beq_iff_eq.mpr c46
                                  have c46b1 : (t280 != (x7_5.size : Int)) = false := bne_eq_false_iff_eq.mpr c46
                                  clear c46
                                  replace H := Option.bind_eq_some_iff.mp H
                                  obtain ⟨⟨t283, t284, t285⟩, A470, H⟩ := H
                                  replace H : (if (t283 != x8_5) = true then (some false) else (heliographlaw05_FramePlays.l0 k5 l0 l1 t263 x7_5 x8_5 (wrap64 (x9_1 + 1)) t284 t285)) = some r := H
                                  have A47 := Aside0.mk A470
                                  clear A470
                                  by_cases c48 : (t283 != x8_5) = true
                                  · rw [if_pos c48] at H
                                    have c48b0 : (t283 != x8_5) = true := c48
                                    (try (have c48b1 : decide (t283 = x8_5) = false := by simpa using c48))
                                    (try (have c48b2 : (t283 == x8_5) = false := by simpa using c48))
                                    (try (have c48b3 : ¬ (t283 = x8_5) := by simpa using c48))
                                    clear c48
                                    obtain rfl := Option.some.inj H
                                    go_wp2_with (first | ((with_reducible refine gate_callee (f := 30) rfl ?_); refine goesL_ (some 109) rfl rfl Tryd.func30 (by kernel_rfl) rfl #[.pointer (some ⟨g266, 0, none⟩)] rfl (by (try simp only [List.map_toArray, List.map_cons, List.map_nil]); first | done | rfl | (simp only [List.length_drop, List.length_take]; rfl)) ?_; (with_reducible refine (frame_Scanner_Left.calls g266 x267000_5 x267001_5 t280 t281 t282 w _ ?side1 ?side2 A45.out).mono ?_); (case side1 => repeat (first | (with_reducible first | exact HI266.out | apply IsS65.alloc | apply IsS65.drewN | apply IsS65.drew | apply IsS65.set_0 | apply IsS65.set_1) | exact HI266.out)); (case side2 => repeat (first | (with_reducible first | exact HB.out | apply below_alloc | apply pw_below_drewN | apply below_drew1 | refine below_set ?_ (IsS65.ge HI266.out)) | exact HB.out)); rintro e w49 ⟨rfl, hi, hb, hk⟩; refine ⟨_, rfl, ?_⟩; have n0_ := Aside0.mk (hb); have n1_ := Aside0.mk (hi); clear HB; clear HI266; have HB := n0_; have HI266 := n1_; clear n0_ n1_; (try clear hb); (try clear hb2); (try clear hk); (try clear hi)) | (go_at_call 31; (with_reducible refine (frame_Scanner_Bad.calls g266 t281 t282 t283 t284 t285 w _ ?side1 ?side2 A47.out).mono ?_); (case side1 => repeat (first | (with_reducible first | exact HI266.out | apply IsS65.alloc | apply IsS65.drewN | apply IsS65.drew | apply IsS65.set_0 | apply IsS65.set_1) | exact HI266.out)); (case side2 => repeat (first | (with_reducible first | exact HB.out | apply below_alloc | apply pw_below_drewN | apply below_drew1 | refine below_set ?_ (IsS65.ge HI266.out)) | exact HB.out)); rintro e w50 ⟨rfl, hi, hb, hk⟩; have n0_ := Aside0.mk (hb); have n1_ := Aside0.mk (hi); clear HB; clear HI266; have HB := n0_; have HI266 := n1_; clear n0_ n1_; (try clear hb); (try clear hb2); (try clear hk); (try clear hi)))
                                    go_ret
                                    exact ⟨by first | rfl | (simp [errW_none, errW_some] <;> rfl) | (simp [*, errW_none, errW_some] <;> rfl), by repeat (first | (with_reducible first | exact HB.out | apply below_alloc | apply pw_below_drewN | apply below_drew1 | refine below_set ?_ (IsS65.ge HI266.out)) | exact HB.out)⟩
                                  · rw [if_neg c48] at H
                                    have c48b0 : (t283 != x8_5) = false := by simpa using c48
                                    (try (have c48b1 : decide (t283 = x8_5) = true := by simpa using c48))
                                    (try (have c48b2 : (t283 == x8_5) = true := by simpa using c48))
                                    clear c48
                                    have H' := Aside0.mk H
                                    clear H
                                    go_wp2_with (first | ((with_reducible refine gate_callee (f := 30) rfl ?_); refine goesL_ (some 109) rfl rfl Tryd.func30 (by kernel_rfl) rfl #[.pointer (some ⟨g266, 0, none⟩)] rfl (by (try simp only [List.map_toArray, List.map_cons, List.map_nil]); first | done | rfl | (simp only [List.length_drop, List.length_take]; rfl)) ?_; (with_reducible refine (frame_Scanner_Left.calls g266 x267000_5 x267001_5 t280 t281 t282 w _ ?side1 ?side2 A45.out).mono ?_); (case side1 => repeat (first | (with_reducible first | exact HI266.out | apply IsS65.alloc | apply IsS65.drewN | apply IsS65.drew | apply IsS65.set_0 | apply IsS65.set_1) | exact HI266.out)); (case side2 => repeat (first | (with_reducible first | exact HB.out | apply below_alloc | apply pw_below_drewN | apply below_drew1 | refine below_set ?_ (IsS65.ge HI266.out)) | exact HB.out)); rintro e w51 ⟨rfl, hi, hb, hk⟩; refine ⟨_, rfl, ?_⟩; have n0_ := Aside0.mk (hb); have n1_ := Aside0.mk (hi); clear HB; clear HI266; have HB := n0_; have HI266 := n1_; clear n0_ n1_; (try clear hb); (try clear hb2); (try clear hk); (try clear hi)) | (go_at_call 31; (with_reducible refine (frame_Scanner_Bad.calls g266 t281 t282 t283 t284 t285 w _ ?side1 ?side2 A47.out).mono ?_); (case side1 => repeat (first | (with_reducible first | exact HI266.out | apply IsS65.alloc | apply IsS65.drewN | apply IsS65.drew | apply IsS65.set_0 | apply IsS65.set_1) | exact HI266.out)); (case side2 => repeat (first | (with_reducible first | exact HB.out | apply below_alloc | apply pw_below_drewN | apply below_drew1 | refine below_set ?_ (IsS65.ge HI266.out)) | exact HB.out)); rintro e w52 ⟨rfl, hi, hb, hk⟩; have n0_ := Aside0.mk (hb); have n1_ := Aside0.mk (hi); clear HB; clear HI266; have HB := n0_; have HI266 := n1_; clear n0_ n1_; (try clear hb); (try clear hb2); (try clear hk); (try clear hi)))
                                    go_roundg k5
                                    case measure => have := HK1.out; have := HJ6.out; have := HJ15.out; have := HJ19.out; have := HK5.out; omega
                                    case rel => exact ⟨(x7_5), (x8_5), (wrap64 (x9_1 + 1)), (t284), (t285), (by first | rfl | (simp; done) | (simp [*]; done)), (by first | rfl | (simp; done) | (simp [*]; done)), (by first | rfl | (simp; done) | (simp [*]; done)), H', ⟨by have := HK1.out; have := HJ6.out; have := HJ15.out; have := HJ19.out; have := HK5.out; omega⟩, ⟨by repeat (first | (with_reducible first | exact HI266.out | apply IsS65.alloc | apply IsS65.drewN | apply IsS65.drew | apply IsS65.set_0 | apply IsS65.set_1) | exact HI266.out)⟩, ⟨by repeat (first | (with_reducible first | exact HB.out | apply below_alloc | apply pw_below_drewN | apply below_drew1 | refine below_set ?_ (IsS65.ge HI266.out)) | exact HB.out)⟩⟩
                                · rw [if_neg c46] at H
                                  have c46b0 : (t280 == (x7_5.size : Int)) = false := beq_eq_false_iff_ne.mpr c46
                                  have c46b1 : (t280 != (x7_5.size : Int)) = true := bne_iff_ne.mpr c46
                                  obtain rfl := Option.some.inj H
                                  go_wp2_with (first | ((with_reducible refine gate_callee (f := 30) rfl ?_); refine goesL_ (some 109) rfl rfl Tryd.func30 (by kernel_rfl) rfl #[.pointer (some ⟨g266, 0, none⟩)] rfl (by (try simp only [List.map_toArray, List.map_cons, List.map_nil]); first | done | rfl | (simp only [List.length_drop, List.length_take]; rfl)) ?_; (with_reducible refine (frame_Scanner_Left.calls g266 x267000_5 x267001_5 t280 t281 t282 w _ ?side1 ?side2 A45.out).mono ?_); (case side1 => repeat (first | (with_reducible first | exact HI266.out | apply IsS65.alloc | apply IsS65.drewN | apply IsS65.drew | apply IsS65.set_0 | apply IsS65.set_1) | exact HI266.out)); (case side2 => repeat (first | (with_reducible first | exact HB.out | apply below_alloc | apply pw_below_drewN | apply below_drew1 | refine below_set ?_ (IsS65.ge HI266.out)) | exact HB.out)); rintro e w53 ⟨rfl, hi, hb, hk⟩; refine ⟨_, rfl, ?_⟩; have n0_ := Aside0.mk (hb); have n1_ := Aside0.mk (hi); clear HB; clear HI266; have HB := n0_; have HI266 := n1_; clear n0_ n1_; (try clear hb); (try clear hb2); (try clear hk); (try clear hi)))
                                  go_ret
                                  exact ⟨by first | rfl | (simp [errW_none, errW_some] <;> rfl) | (simp [*, errW_none, errW_some] <;> rfl), by repeat (first | (with_reducible first | exact HB.out | apply below_alloc | apply pw_below_drewN | apply below_drew1 | refine below_set ?_ (IsS65.ge HI266.out)) | exact HB.out)⟩
              · rw [if_neg c11] at H
                exact absurd H (by simp)
            · rw [if_neg c10] at H
              exact absurd H (by simp)
          · replace c9 := Bool.eq_false_iff.mpr c9
            subst c9
            have H1 : (some t263) = some r := by rw [if_neg (show ¬ (false = true) by decide)] at H; exact H
            clear H
            have H := H1
            clear H1
            obtain rfl := Option.some.inj H
            go_wp2
            go_ret
            exact ⟨by first | rfl | (simp [errW_none, errW_some] <;> rfl) | (simp [*, errW_none, errW_some] <;> rfl), by repeat (first | (with_reducible first | exact HB.out | apply below_alloc | apply pw_below_drewN | apply below_drew1 | refine below_set ?_ (IsS65.ge HI266.out)) | exact HB.out)⟩

end Go.Proofs.YtbanbeaemmlikaaDoor.Px
