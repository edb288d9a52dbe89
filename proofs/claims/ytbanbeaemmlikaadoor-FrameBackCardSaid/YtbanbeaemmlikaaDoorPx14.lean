/- Written by px.py, a program of this place (it runs the print of the kit with turns of its own): each Go function as a plain Lean function, and the proof that a call of the Go function comes to it. Conditions: none but what each theorem says. -/
import Derived.Test.YtbanbeaemmlikaaDoorPx0
import Derived.Test.YtbanbeaemmlikaaDoorPx7
import Derived.Test.YtbanbeaemmlikaaDoorPx9
import Derived.Test.YtbanbeaemmlikaaDoorPx10
import Derived.Test.YtbanbeaemmlikaaDoorPx11
import Derived.Test.YtbanbeaemmlikaaDoorPx13
namespace Go.Proofs.YtbanbeaemmlikaaDoor.Px
open Go.RowKit Go.Proofs.YtbanbeaemmlikaaDoorW.PrintWords Go.Proofs.YtbanbeaemmlikaaDoorW.PrintLast Go.Proofs.YtbanbeaemmlikaaDoorW.PrintMore
attribute [local go_sem high] not_u32
attribute [local go_sem] max2_int min2_int max_two min_two max_three min_three max_four min_four   -- for this text's walks alone
set_option linter.unusedVariables false
set_option linter.unusedSimpArgs false

/-! ### heliographlaw05_FrameBack: function 9 -/
mutual
def heliographlaw05_FrameBack.l0 : Nat → List Int → Bool → List ByteArray → ByteArray → List Int → Int → Option (Bool)
  | 0, _, _, _, _, _, _ => none
  | k + 1, x1, x5, x6, x7, x8, x9 => if x9 < (x6.length : Int) then (if 0 ≤ x9 then ((frame_Put.f k (rdOf ByteArray.empty x6 x9)).bind fun bt296 => (if bt296.2 = 0 then (if x7.size + bt296.1.size ≤ 9223372036854775807 then (if x8.length < 17592186044416 then (heliographlaw05_FrameBack.l0 k x1 x5 x6 (x7 ++ bt296.1) (x8 ++ [((x7.size : Int) + (bt296.1.size : Int))]) (wrap64 (x9 + 1))) else (none)) else (none)) else (some false))) else (none)) else ((frame_New.f).bind fun bt301 => (heliographlaw05_FrameBack.l1 k x1 x5 x6 x7 x8 0 0 0 bt301.1 bt301.2))
def heliographlaw05_FrameBack.l1 : Nat → List Int → Bool → List ByteArray → ByteArray → List Int → Int → Int → Int → ByteArray → Bool → Option (Bool)
  | 0, _, _, _, _, _, _, _, _, _, _ => none
  | k + 1, x1, x5, x6, x7, x8, x13, x14, x15, x304000, x304001 => if x13 < (x7.size : Int) then (if x15 < (x1.length : Int) then (if 0 ≤ x15 then (if (wrap64 ((Go.bits .and .i64 (rd x1 x15) 31) + 1)) < (wrap64 ((x7.size : Int) - x13)) then (heliographlaw05_FrameBack.j2 k x1 x5 x6 x7 x8 x13 x14 x15 (wrap64 ((Go.bits .and .i64 (rd x1 x15) 31) + 1)) x304000 x304001) else (heliographlaw05_FrameBack.j2 k x1 x5 x6 x7 x8 x13 x14 x15 (wrap64 ((x7.size : Int) - x13)) x304000 x304001)) else (none)) else (heliographlaw05_FrameBack.j2 k x1 x5 x6 x7 x8 x13 x14 x15 (wrap64 ((x7.size : Int) - x13)) x304000 x304001)) else (if x5 = true then (if x14 = (x6.length : Int) then ((frame_Scanner_Left.f x304000 x304001).bind fun bt304 => (if bt304.1 = 0 then ((frame_Scanner_Bad.f bt304.2.1 bt304.2.2).bind fun bt307 => (some (!bt307.1))) else (some false))) else (some false)) else (some false))
def heliographlaw05_FrameBack.j2 : Nat → List Int → Bool → List ByteArray → ByteArray → List Int → Int → Int → Int → Int → ByteArray → Bool → Option (Bool)
  | 0, _, _, _, _, _, _, _, _, _, _, _ => none
  | k + 1, x1, x5, x6, x7, x8, x13, x14, x15, x16, x304000, x304001 => if 0 ≤ x13 then (if x13 ≤ (wrap64 (x13 + x16)) then (if (wrap64 (x13 + x16)) ≤ (x7.size : Int) then ((frame_Scanner_Feed.f x304000 x304001 (x7.extract (x13 : Int).toNat ((wrap64 (x13 + x16)) : Int).toNat)).bind fun bt311 => (heliographlaw05_FrameBack.l2 k x1 x5 x6 x7 x8 (wrap64 (x13 + x16)) x14 x15 bt311.2.1 bt311.2.2)) else (none)) else (none)) else (none)
def heliographlaw05_FrameBack.l2 : Nat → List Int → Bool → List ByteArray → ByteArray → List Int → Int → Int → Int → ByteArray → Bool → Option (Bool)
  | 0, _, _, _, _, _, _, _, _, _, _ => none
  | k + 1, x1, x5, x6, x7, x8, x13, x14, x15, x304000, x304001 => if x14 < (x6.length : Int) then (if 0 ≤ x14 then (if x14 < (x8.length : Int) then (heliographlaw05_FrameBack.j4 k x1 x5 x6 x7 x8 x13 x14 x15 (decide ((rd x8 x14) ≤ x13)) x304000 x304001) else (none)) else (none)) else (heliographlaw05_FrameBack.j4 k x1 x5 x6 x7 x8 x13 x14 x15 false x304000 x304001)
def heliographlaw05_FrameBack.j4 : Nat → List Int → Bool → List ByteArray → ByteArray → List Int → Int → Int → Int → Bool → ByteArray → Bool → Option (Bool)
  | 0, _, _, _, _, _, _, _, _, _, _, _ => none
  | k + 1, x1, x5, x6, x7, x8, x13, x14, x15, x99, x304000, x304001 => if x99 = true then ((frame_Scanner_Next.f k x304000 x304001).bind fun bt315 => (if bt315.2.1 = true then (if 0 ≤ x14 then (if x14 < (x6.length : Int) then (if bt315.1.toList = (rdOf ByteArray.empty x6 x14).toList then (heliographlaw05_FrameBack.l2 k x1 x5 x6 x7 x8 x13 (wrap64 (x14 + 1)) x15 bt315.2.2.1 bt315.2.2.2) else (some false)) else (none)) else (none)) else (some false))) else ((frame_Scanner_Next.f k x304000 x304001).bind fun bt320 => (if bt320.2.1 = true then (some false) else (heliographlaw05_FrameBack.l1 k x1 x5 x6 x7 x8 x13 x14 (wrap64 (x15 + 1)) bt320.2.2.1 bt320.2.2.2)))
end
def heliographlaw05_FrameBack.f (k : Nat) (l0 : List ByteArray) (l1 : List Int) : Option (Bool) := (heliographlaw05_awake.f k).bind fun t291 => ((heliographlaw05_few.f k l0).bind fun t292 => (heliographlaw05_FrameBack.l0 k l1 t291 t292 (⟨#[]⟩ : ByteArray) ([] : List Int) 0))
theorem heliographlaw05_FrameBack.mono_l : ∀ k, (∀ y0 y1 y2 y3 y4 y5, LeO (heliographlaw05_FrameBack.l0 k y0 y1 y2 y3 y4 y5) (heliographlaw05_FrameBack.l0 (k + 1) y0 y1 y2 y3 y4 y5)) ∧ (∀ y0 y1 y2 y3 y4 y5 y6 y7 y8 y9, LeO (heliographlaw05_FrameBack.l1 k y0 y1 y2 y3 y4 y5 y6 y7 y8 y9) (heliographlaw05_FrameBack.l1 (k + 1) y0 y1 y2 y3 y4 y5 y6 y7 y8 y9)) ∧ (∀ y0 y1 y2 y3 y4 y5 y6 y7 y8 y9 y10, LeO (heliographlaw05_FrameBack.j2 k y0 y1 y2 y3 y4 y5 y6 y7 y8 y9 y10) (heliographlaw05_FrameBack.j2 (k + 1) y0 y1 y2 y3 y4 y5 y6 y7 y8 y9 y10)) ∧ (∀ y0 y1 y2 y3 y4 y5 y6 y7 y8 y9, LeO (heliographlaw05_FrameBack.l2 k y0 y1 y2 y3 y4 y5 y6 y7 y8 y9) (heliographlaw05_FrameBack.l2 (k + 1) y0 y1 y2 y3 y4 y5 y6 y7 y8 y9)) ∧ (∀ y0 y1 y2 y3 y4 y5 y6 y7 y8 y9 y10, LeO (heliographlaw05_FrameBack.j4 k y0 y1 y2 y3 y4 y5 y6 y7 y8 y9 y10) (heliographlaw05_FrameBack.j4 (k + 1) y0 y1 y2 y3 y4 y5 y6 y7 y8 y9 y10))
  | 0 => ⟨fun _ _ _ _ _ _ r h => by simp [heliographlaw05_FrameBack.l0] at h, fun _ _ _ _ _ _ _ _ _ _ r h => by simp [heliographlaw05_FrameBack.l1] at h, fun _ _ _ _ _ _ _ _ _ _ _ r h => by simp [heliographlaw05_FrameBack.j2] at h, fun _ _ _ _ _ _ _ _ _ _ r h => by simp [heliographlaw05_FrameBack.l2] at h, fun _ _ _ _ _ _ _ _ _ _ _ r h => by simp [heliographlaw05_FrameBack.j4] at h⟩
  | k + 1 => by
    obtain ⟨ih0, ih1, ih2, ih3, ih4⟩ := heliographlaw05_FrameBack.mono_l k
    refine ⟨?_, ?_, ?_, ?_, ?_⟩
    · intro y0 y1 y2 y3 y4 y5
      unfold heliographlaw05_FrameBack.l0
      repeat' first
      | (with_reducible exact ih0 _ _ _ _ _ _)
      | (with_reducible exact ih1 _ _ _ _ _ _ _ _ _ _)
      | (with_reducible exact ih2 _ _ _ _ _ _ _ _ _ _ _)
      | (with_reducible exact ih3 _ _ _ _ _ _ _ _ _ _)
      | (with_reducible exact ih4 _ _ _ _ _ _ _ _ _ _ _)
      | (with_reducible exact frame_Put.mono _ _)
      | (with_reducible exact frame_Scanner_Next.mono _ _ _)
      | (with_reducible exact heliographlaw05_awake.mono _)
      | (with_reducible exact heliographlaw05_few.mono _ _)
      | (with_reducible exact LeO.refl _)
      | (with_reducible exact LeO.none _)
      | (with_reducible refine LeO.ite ?_ ?_)
      | (with_reducible refine LeO.bind ?_ (fun _ => ?_))
      | exact ih0 _ _ _ _ _ _
      | exact ih1 _ _ _ _ _ _ _ _ _ _
      | exact ih2 _ _ _ _ _ _ _ _ _ _ _
      | exact ih3 _ _ _ _ _ _ _ _ _ _
      | exact ih4 _ _ _ _ _ _ _ _ _ _ _
      | exact frame_Put.mono _ _
      | exact frame_Scanner_Next.mono _ _ _
      | exact heliographlaw05_awake.mono _
      | exact heliographlaw05_few.mono _ _
      | exact LeO.none _
      | refine LeO.ite ?_ ?_
      | refine LeO.bind ?_ (fun _ => ?_)
    · intro y0 y1 y2 y3 y4 y5 y6 y7 y8 y9
      unfold heliographlaw05_FrameBack.l1
      repeat' first
      | (with_reducible exact ih0 _ _ _ _ _ _)
      | (with_reducible exact ih1 _ _ _ _ _ _ _ _ _ _)
      | (with_reducible exact ih2 _ _ _ _ _ _ _ _ _ _ _)
      | (with_reducible exact ih3 _ _ _ _ _ _ _ _ _ _)
      | (with_reducible exact ih4 _ _ _ _ _ _ _ _ _ _ _)
      | (with_reducible exact frame_Put.mono _ _)
      | (with_reducible exact frame_Scanner_Next.mono _ _ _)
      | (with_reducible exact heliographlaw05_awake.mono _)
      | (with_reducible exact heliographlaw05_few.mono _ _)
      | (with_reducible exact LeO.refl _)
      | (with_reducible exact LeO.none _)
      | (with_reducible refine LeO.ite ?_ ?_)
      | (with_reducible refine LeO.bind ?_ (fun _ => ?_))
      | exact ih0 _ _ _ _ _ _
      | exact ih1 _ _ _ _ _ _ _ _ _ _
      | exact ih2 _ _ _ _ _ _ _ _ _ _ _
      | exact ih3 _ _ _ _ _ _ _ _ _ _
      | exact ih4 _ _ _ _ _ _ _ _ _ _ _
      | exact frame_Put.mono _ _
      | exact frame_Scanner_Next.mono _ _ _
      | exact heliographlaw05_awake.mono _
      | exact heliographlaw05_few.mono _ _
      | exact LeO.none _
      | refine LeO.ite ?_ ?_
      | refine LeO.bind ?_ (fun _ => ?_)
    · intro y0 y1 y2 y3 y4 y5 y6 y7 y8 y9 y10
      unfold heliographlaw05_FrameBack.j2
      repeat' first
      | (with_reducible exact ih0 _ _ _ _ _ _)
      | (with_reducible exact ih1 _ _ _ _ _ _ _ _ _ _)
      | (with_reducible exact ih2 _ _ _ _ _ _ _ _ _ _ _)
      | (with_reducible exact ih3 _ _ _ _ _ _ _ _ _ _)
      | (with_reducible exact ih4 _ _ _ _ _ _ _ _ _ _ _)
      | (with_reducible exact frame_Put.mono _ _)
      | (with_reducible exact frame_Scanner_Next.mono _ _ _)
      | (with_reducible exact heliographlaw05_awake.mono _)
      | (with_reducible exact heliographlaw05_few.mono _ _)
      | (with_reducible exact LeO.refl _)
      | (with_reducible exact LeO.none _)
      | (with_reducible refine LeO.ite ?_ ?_)
      | (with_reducible refine LeO.bind ?_ (fun _ => ?_))
      | exact ih0 _ _ _ _ _ _
      | exact ih1 _ _ _ _ _ _ _ _ _ _
      | exact ih2 _ _ _ _ _ _ _ _ _ _ _
      | exact ih3 _ _ _ _ _ _ _ _ _ _
      | exact ih4 _ _ _ _ _ _ _ _ _ _ _
      | exact frame_Put.mono _ _
      | exact frame_Scanner_Next.mono _ _ _
      | exact heliographlaw05_awake.mono _
      | exact heliographlaw05_few.mono _ _
      | exact LeO.none _
      | refine LeO.ite ?_ ?_
      | refine LeO.bind ?_ (fun _ => ?_)
    · intro y0 y1 y2 y3 y4 y5 y6 y7 y8 y9
      unfold heliographlaw05_FrameBack.l2
      repeat' first
      | (with_reducible exact ih0 _ _ _ _ _ _)
      | (with_reducible exact ih1 _ _ _ _ _ _ _ _ _ _)
      | (with_reducible exact ih2 _ _ _ _ _ _ _ _ _ _ _)
      | (with_reducible exact ih3 _ _ _ _ _ _ _ _ _ _)
      | (with_reducible exact ih4 _ _ _ _ _ _ _ _ _ _ _)
      | (with_reducible exact frame_Put.mono _ _)
      | (with_reducible exact frame_Scanner_Next.mono _ _ _)
      | (with_reducible exact heliographlaw05_awake.mono _)
      | (with_reducible exact heliographlaw05_few.mono _ _)
      | (with_reducible exact LeO.refl _)
      | (with_reducible exact LeO.none _)
      | (with_reducible refine LeO.ite ?_ ?_)
      | (with_reducible refine LeO.bind ?_ (fun _ => ?_))
      | exact ih0 _ _ _ _ _ _
      | exact ih1 _ _ _ _ _ _ _ _ _ _
      | exact ih2 _ _ _ _ _ _ _ _ _ _ _
      | exact ih3 _ _ _ _ _ _ _ _ _ _
      | exact ih4 _ _ _ _ _ _ _ _ _ _ _
      | exact frame_Put.mono _ _
      | exact frame_Scanner_Next.mono _ _ _
      | exact heliographlaw05_awake.mono _
      | exact heliographlaw05_few.mono _ _
      | exact LeO.none _
      | refine LeO.ite ?_ ?_
      | refine LeO.bind ?_ (fun _ => ?_)
    · intro y0 y1 y2 y3 y4 y5 y6 y7 y8 y9 y10
      unfold heliographlaw05_FrameBack.j4
      repeat' first
      | (with_reducible exact ih0 _ _ _ _ _ _)
      | (with_reducible exact ih1 _ _ _ _ _ _ _ _ _ _)
      | (with_reducible exact ih2 _ _ _ _ _ _ _ _ _ _ _)
      | (with_reducible exact ih3 _ _ _ _ _ _ _ _ _ _)
      | (with_reducible exact ih4 _ _ _ _ _ _ _ _ _ _ _)
      | (with_reducible exact frame_Put.mono _ _)
      | (with_reducible exact frame_Scanner_Next.mono _ _ _)
      | (with_reducible exact heliographlaw05_awake.mono _)
      | (with_reducible exact heliographlaw05_few.mono _ _)
      | (with_reducible exact LeO.refl _)
      | (with_reducible exact LeO.none _)
      | (with_reducible refine LeO.ite ?_ ?_)
      | (with_reducible refine LeO.bind ?_ (fun _ => ?_))
      | exact ih0 _ _ _ _ _ _
      | exact ih1 _ _ _ _ _ _ _ _ _ _
      | exact ih2 _ _ _ _ _ _ _ _ _ _ _
      | exact ih3 _ _ _ _ _ _ _ _ _ _
      | exact ih4 _ _ _ _ _ _ _ _ _ _ _
      | exact frame_Put.mono _ _
      | exact frame_Scanner_Next.mono _ _ _
      | exact heliographlaw05_awake.mono _
      | exact heliographlaw05_few.mono _ _
      | exact LeO.none _
      | refine LeO.ite ?_ ?_
      | refine LeO.bind ?_ (fun _ => ?_)
theorem heliographlaw05_FrameBack.mono : ∀ a0 a1 k, LeO (heliographlaw05_FrameBack.f k a0 a1) (heliographlaw05_FrameBack.f (k + 1) a0 a1) := by
  intro a0 a1 k
  obtain ⟨ih0, ih1, ih2, ih3, ih4⟩ := heliographlaw05_FrameBack.mono_l k
  unfold heliographlaw05_FrameBack.f
  repeat' first
      | (with_reducible exact ih0 _ _ _ _ _ _)
      | (with_reducible exact ih1 _ _ _ _ _ _ _ _ _ _)
      | (with_reducible exact ih2 _ _ _ _ _ _ _ _ _ _ _)
      | (with_reducible exact ih3 _ _ _ _ _ _ _ _ _ _)
      | (with_reducible exact ih4 _ _ _ _ _ _ _ _ _ _ _)
      | (with_reducible exact frame_Put.mono _ _)
      | (with_reducible exact frame_Scanner_Next.mono _ _ _)
      | (with_reducible exact heliographlaw05_awake.mono _)
      | (with_reducible exact heliographlaw05_few.mono _ _)
      | (with_reducible exact LeO.refl _)
      | (with_reducible exact LeO.none _)
      | (with_reducible refine LeO.ite ?_ ?_)
      | (with_reducible refine LeO.bind ?_ (fun _ => ?_))
      | exact ih0 _ _ _ _ _ _
      | exact ih1 _ _ _ _ _ _ _ _ _ _
      | exact ih2 _ _ _ _ _ _ _ _ _ _ _
      | exact ih3 _ _ _ _ _ _ _ _ _ _
      | exact ih4 _ _ _ _ _ _ _ _ _ _ _
      | exact frame_Put.mono _ _
      | exact frame_Scanner_Next.mono _ _ _
      | exact heliographlaw05_awake.mono _
      | exact heliographlaw05_few.mono _ _
      | exact LeO.none _
      | refine LeO.ite ?_ ?_
      | refine LeO.bind ?_ (fun _ => ?_)
set_option maxHeartbeats 8000000 in
set_option maxRecDepth 100000 in
theorem heliographlaw05_FrameBack.calls (k : Nat) (A0 : Option Addr) (c0 : Nat) (l0 : List ByteArray) (A1 : Option Addr) (c1 : Nat) (l1 : List Int) (r : Bool) (w : World) (hr0 : Kd.C Kd.string w A0 l0.length l0) (hc0 : l0.length ≤ c0) (hr1 : Kd.C (Kd.int .i64) w A1 l1.length l1) (hc1 : l1.length ≤ c1) (hT : TabIn w) (h : heliographlaw05_FrameBack.f k l0 l1 = some r) :
    Calls Tryd.prog 9 #[.slice A0 l0.length c0, .slice A1 l1.length c1] w fun e w' => e = .returned (.bool r) ∧ Below w.heap.size w w' := by
  have HTB := Aside0.mk hT
  clear hT
  have HR0 := Aside0.mk hr0
  have HC0 := Aside0.mk hc0
  clear hr0 hc0
  have HR1 := Aside0.mk hr1
  have HC1 := Aside0.mk hc1
  clear hr1 hc1
  have HB := Aside0.mk (Below.refl w.heap.size w)
  have H : ((heliographlaw05_awake.f k).bind fun t291 => ((heliographlaw05_few.f k l0).bind fun t292 => (heliographlaw05_FrameBack.l0 k l1 t291 t292 (⟨#[]⟩ : ByteArray) ([] : List Int) 0))) = some r := h
  clear h
  replace H := Option.bind_eq_some_iff.mp H
  obtain ⟨t291, A30, H⟩ := H
  replace H : ((heliographlaw05_few.f k l0).bind fun t292 => (heliographlaw05_FrameBack.l0 k l1 t291 t292 (⟨#[]⟩ : ByteArray) ([] : List Int) 0)) = some r := H
  have A3 := Aside0.mk A30
  clear A30
  replace H := Option.bind_eq_some_iff.mp H
  obtain ⟨t292, A40, H⟩ := H
  replace H : (heliographlaw05_FrameBack.l0 k l1 t291 t292 (⟨#[]⟩ : ByteArray) ([] : List Int) 0) = some r := H
  have A4 := Aside0.mk A40
  clear A40
  have H' := Aside0.mk H
  clear H
  go_enter Tryd.func9, Tryd.ntmps9
  go_wp2_with (first | ((with_reducible refine gate_callee (f := 24) rfl ?_); refine goesL_ (some 22) rfl rfl Tryd.func24 (by kernel_rfl) rfl #[] rfl (by (try simp only [List.map_toArray, List.map_cons, List.map_nil]); first | done | rfl | (simp only [List.length_drop, List.length_take]; rfl)) ?_; (with_reducible refine (heliographlaw05_awake.calls k  t291 _ ?side1 A3.out).mono ?_); (case side1 => exact TabIn.below HTB.out (by repeat (first | (with_reducible first | exact HB.out | apply below_alloc | apply pw_below_drewN | apply below_drew1) | exact HB.out))); rintro e w5 ⟨rfl, hb⟩; refine ⟨_, rfl, ?_⟩; have n0_ := Aside0.mk (below_step (by repeat (first | (with_reducible first | exact HB.out | apply below_alloc | apply pw_below_drewN | apply below_drew1) | exact HB.out)) hb); clear HB; have HB := n0_; clear n0_; (try clear hb); (try clear hb2); (try clear hk); (try clear hi)) | ((with_reducible refine gate_callee (f := 36) rfl ?_); refine goesL_ (some 24) rfl rfl Tryd.func36 (by kernel_rfl) rfl #[.slice A0 l0.length c0] rfl (by (try simp only [List.map_toArray, List.map_cons, List.map_nil]); first | done | rfl | (simp only [List.length_drop, List.length_take]; rfl)) ?_; (with_reducible refine (heliographlaw05_few.calls k _ _ l0 t292 _ ?side1 ?side2 A4.out).mono ?_); (case side1 => repeat (first | exact (Kd.C_below HR0.out HB.out) | (with_reducible refine Kd.C_alloc ?_ _) | (with_reducible refine Kd.C_drewN ?_ _) | (with_reducible refine Kd.C_drew ?_))); (case side2 => exact HC0.out); rintro e w6 ⟨v293, rfl, ho0, hb⟩; refine ⟨_, rfl, ?_⟩; have n0_ := Aside0.mk (Kd.R_lower ho0 (below_size (by repeat (first | (with_reducible first | exact HB.out | apply below_alloc | apply pw_below_drewN | apply below_drew1) | exact HB.out)))); have n1_ := Aside0.mk (below_step (by repeat (first | (with_reducible first | exact HB.out | apply below_alloc | apply pw_below_drewN | apply below_drew1) | exact HB.out)) hb); clear HB; have HO294 := n0_; have HB := n1_; clear n0_ n1_; (try clear hb); (try clear hb2); (try clear hk); (try clear hi); (try clear ho0)))
  go_loopg [7, 8, 9] k (fun kq v7 v8 v9 w' => ∃ (x7_1 : ByteArray) (x8_1 : List Int) (x9_1 : Int), v7 = .string x7_1 ∧ v9 = .int .i64 x9_1 ∧ Aside0 (heliographlaw05_FrameBack.l0 kq l1 t291 t292 x7_1 x8_1 x9_1 = some r) ∧ Aside0 (kq ≤ k) ∧ Aside0 (Kd.R Kd.string 9 w' w.heap.size (fun _ => True) v293 t292) ∧ Aside0 (Kd.R (Kd.int .i64) 3 w' w.heap.size (fun _ => True) v8 x8_1) ∧ Aside0 (Below w.heap.size w w'))
  case atStart => exact ⟨((⟨#[]⟩ : ByteArray)), (([] : List Int)), (0), (by first | rfl | (simp; done) | (simp [*]; done)), (by first | rfl | (simp; done) | (simp [*]; done)), H', ⟨Nat.le_refl _⟩, ⟨by (with_reducible repeat (first | apply Kd.R_alloc | apply Kd.R_drewN | apply Kd.R_drew)); exact HO294.out⟩, ⟨by first | exact Kd.R_nil _ _ _ _ _ | exact Kd.N_nil _ _ _ _ _ | exact Kd.V_nil _ _ _ _ _ | exact Kd.Q_nil _ _ _ _ _ | exact Kd.S_nil _ _ _ _ _⟩, ⟨by repeat (first | (with_reducible first | exact HB.out | apply below_alloc | apply pw_below_drewN | apply below_drew1) | exact HB.out)⟩⟩
  case round =>
    clear H'
    try clear c1
    try clear c2
    try clear p2
    try clear c3
    obtain ⟨x7_1, x8_1, x9_1, rfl, rfl, HA, HK1, HO_6, HO_8, HB⟩ := hrel
    cases gk with
    | zero => exact absurd HA.out (by simp [heliographlaw05_FrameBack.l0])
    | succ k1 =>
      have H := HA.out
      clear HA
      simp only [heliographlaw05_FrameBack.l0] at H
      by_cases c7 : x9_1 < (t292.length : Int)
      · rw [if_pos c7] at H
        have c7b0 : decide (x9_1 < (t292.length : Int)) = true := decide_eq_true c7
        clear c7
        by_cases c8 : 0 ≤ x9_1
        · rw [if_pos c8] at H
          have c8b0 : decide (0 ≤ x9_1) = true := decide_eq_true c8
          clear c8
          replace H := Option.bind_eq_some_iff.mp H
          obtain ⟨⟨t296, t297⟩, A90, H⟩ := H
          replace H : (if t297 = 0 then (if x7_1.size + t296.size ≤ 9223372036854775807 then (if x8_1.length < 17592186044416 then (heliographlaw05_FrameBack.l0 k1 l1 t291 t292 (x7_1 ++ t296) (x8_1 ++ [((x7_1.size : Int) + (t296.size : Int))]) (wrap64 (x9_1 + 1))) else (none)) else (none)) else (some false)) = some r := H
          have A9 := Aside0.mk A90
          clear A90
          by_cases c10 : t297 = 0
          · rw [if_pos c10] at H
            have c10b0 : (t297 == 0) = true := beq_iff_eq.mpr c10
            have c10b1 : (t297 != 0) = false := bne_eq_false_iff_eq.mpr c10
            clear c10
            by_cases c11 : x7_1.size + t296.size ≤ 9223372036854775807
            · rw [if_pos c11] at H
              have c11b0 := eq_true c11
              have c11b1 : decide (x7_1.size + t296.size ≤ 9223372036854775807) = true := decide_eq_true c11
              try have c11b2 : (9223372036854775807 < x7_1.size + t296.size) = False := eq_false (Nat.not_lt.2 c11)
              by_cases c12 : x8_1.length < 17592186044416
              · rw [if_pos c12] at H
                have LMc12 := Aside0.mk c12
                clear c12
                obtain ⟨y298, hy298⟩ : ∃ y_ : List Int, y_ = (x8_1 ++ [((x7_1.size : Int) + (t296.size : Int))]) := ⟨_, rfl⟩
                replace H : (heliographlaw05_FrameBack.l0 k1 l1 t291 t292 (x7_1 ++ t296) y298 (wrap64 (x9_1 + 1))) = some r := by first | (rw [hy298]; with_reducible exact H) | (have H2_ := (Option.bind_some _ _).symm.trans H; rw [hy298]; with_reducible exact H2_) | (have H2_ := (Option.bind_some _ _).symm.trans H; with_reducible exact H2_) | with_reducible exact H | (rw [hy298]; exact H) | exact H
                have Ny298 := Aside0.mk hy298
                clear hy298
                have H' := Aside0.mk H
                clear H
                obtain ⟨Ao13, co13, eo13⟩ := Kd.R_slice HO_6.out
                subst eo13
                have p295 : 0 ≤ (x9_1 : Int) := of_decide_eq_true (by first | (with_reducible assumption) | assumption)
                have q295 : x9_1 < (t292.length : Int) := of_decide_eq_true (by first | (with_reducible assumption) | assumption)
                obtain ⟨ad295, e295, hx295_0⟩ := Kd.at_string (Kd.R_reads' HO_6.out).2.2 x9_1 p295 q295
                cases e295
                replace p295 := eq_true p295
                replace q295 := eq_true q295
                go_wp2_with (first | ((with_reducible refine gate_callee (f := 37) rfl ?_); refine goesL_ (some 36) rfl rfl Tryd.func37 (by kernel_rfl) rfl #[.string (rdOf ByteArray.empty t292 x9_1)] rfl (by (try simp only [List.map_toArray, List.map_cons, List.map_nil]); first | done | rfl | (simp only [List.length_drop, List.length_take]; rfl)) ?_; (with_reducible refine (frame_Put.calls k1 (rdOf ByteArray.empty t292 x9_1) t296 t297 _ ?side1 A9.out).mono ?_); (case side1 => exact TabIn.below HTB.out (by repeat (first | (with_reducible first | exact HB.out | apply below_alloc | apply pw_below_drewN | apply below_drew1) | exact HB.out))); rintro e w14 ⟨rfl, hb⟩; refine ⟨_, rfl, ?_⟩; have n0_ := Aside0.mk (Kd.R_below (by (with_reducible repeat (first | apply Kd.R_alloc | apply Kd.R_drewN | apply Kd.R_drew)); exact HO_6.out) hb); have n1_ := Aside0.mk (Kd.R_below (by (with_reducible repeat (first | apply Kd.R_alloc | apply Kd.R_drewN | apply Kd.R_drew)); exact HO_8.out) hb); have n2_ := Aside0.mk (below_step (by repeat (first | (with_reducible first | exact HB.out | apply below_alloc | apply pw_below_drewN | apply below_drew1) | exact HB.out)) hb); clear HO_6; clear HO_8; clear HB; have HO_6 := n0_; have HO_8 := n1_; have HB := n2_; clear n0_ n1_ n2_; (try clear hb); (try clear hb2); (try clear hk); (try clear hi)) | ((with_reducible refine gate_builtin (b := .append) (xs := #[.tmp 44, .tmp 47]) rfl ?_); (try (refine gate_guard (by rfl) ?_; dsimp only)); at_builtin; refine Kd.R_append (Kd.int .i64) (w0 := w) w.heap.size rfl (.tmp 44) (.tmp 47) 37 3 (.int .i64 0) 8 rfl Tryd.underlying37 info3 rfl (by decide) (by omega) u8 x8_1 ((x7_1.size : Int) + (t296.size : Int)) [.int .i64 ((x7_1.size : Int) + (t296.size : Int))] (fun _ => True) (fun _ => False) rfl rfl ?aP (fun _ hk => hk.elim) ?aF ?aO ?aB ?aS ?aL ?_; (case aP => exact rfl); (case aB => exact (by repeat (first | (with_reducible first | exact HB.out | apply below_alloc | apply pw_below_drewN | apply below_drew1) | exact HB.out))); (case aF => exact (fun _ _ => trivial)); (case aO => exact (by (with_reducible repeat (first | apply Kd.R_alloc | apply Kd.R_drewN | apply Kd.R_drew)); exact HO_8.out)); (case aS => exact (below_size (by repeat (first | (with_reducible first | exact HB.out | apply below_alloc | apply pw_below_drewN | apply below_drew1) | exact HB.out)))); (case aL => have := LMc12.out; omega); intro v299 w15 ho hb hg hat; rw [← Ny298.out] at ho; have n0_ := Aside0.mk (Kd.R_over' (by (with_reducible repeat (first | apply Kd.R_alloc | apply Kd.R_drewN | apply Kd.R_drew)); exact HO_6.out) (Kd.R_typed (by (with_reducible repeat (first | apply Kd.R_alloc | apply Kd.R_drewN | apply Kd.R_drew)); exact HO_8.out)) (by decide) hg); have n1_ := Aside0.mk (hb); have n2_ := Aside0.mk (ho); clear HO_6; clear HB; clear HO_8; have HO_6 := n0_; have HB := n1_; have HO300 := n2_; clear n0_ n1_ n2_; clear ho hb hg hat))
                go_roundg k1
                case measure => have := HK1.out; omega
                case rel => exact ⟨(x7_1 ++ t296), (y298), (wrap64 (x9_1 + 1)), (by first | rfl | (simp; done) | (simp [*]; done)), (by first | rfl | (simp; done) | (simp [*]; done)), H', ⟨by have := HK1.out; omega⟩, ⟨by (with_reducible repeat (first | apply Kd.R_alloc | apply Kd.R_drewN | apply Kd.R_drew)); exact HO_6.out⟩, ⟨by (with_reducible repeat (first | apply Kd.R_alloc | apply Kd.R_drewN | apply Kd.R_drew)); exact HO300.out⟩, ⟨by repeat (first | (with_reducible first | exact HB.out | apply below_alloc | apply pw_below_drewN | apply below_drew1) | exact HB.out)⟩⟩
              · rw [if_neg c12] at H
                exact absurd H (by simp)
            · rw [if_neg c11] at H
              exact absurd H (by simp)
          · rw [if_neg c10] at H
            have c10b0 : (t297 == 0) = false := beq_eq_false_iff_ne.mpr c10
            have c10b1 : (t297 != 0) = true := bne_iff_ne.mpr c10
            obtain rfl := Option.some.inj H
            obtain ⟨Ao16, co16, eo16⟩ := Kd.R_slice HO_6.out
            subst eo16
            have p295 : 0 ≤ (x9_1 : Int) := of_decide_eq_true (by first | (with_reducible assumption) | assumption)
            have q295 : x9_1 < (t292.length : Int) := of_decide_eq_true (by first | (with_reducible assumption) | assumption)
            obtain ⟨ad295, e295, hx295_0⟩ := Kd.at_string (Kd.R_reads' HO_6.out).2.2 x9_1 p295 q295
            cases e295
            replace p295 := eq_true p295
            replace q295 := eq_true q295
            go_wp2_with (first | ((with_reducible refine gate_callee (f := 37) rfl ?_); refine goesL_ (some 36) rfl rfl Tryd.func37 (by kernel_rfl) rfl #[.string (rdOf ByteArray.empty t292 x9_1)] rfl (by (try simp only [List.map_toArray, List.map_cons, List.map_nil]); first | done | rfl | (simp only [List.length_drop, List.length_take]; rfl)) ?_; (with_reducible refine (frame_Put.calls k1 (rdOf ByteArray.empty t292 x9_1) t296 t297 _ ?side1 A9.out).mono ?_); (case side1 => exact TabIn.below HTB.out (by repeat (first | (with_reducible first | exact HB.out | apply below_alloc | apply pw_below_drewN | apply below_drew1) | exact HB.out))); rintro e w17 ⟨rfl, hb⟩; refine ⟨_, rfl, ?_⟩; have n0_ := Aside0.mk (Kd.R_below (by (with_reducible repeat (first | apply Kd.R_alloc | apply Kd.R_drewN | apply Kd.R_drew)); exact HO_6.out) hb); have n1_ := Aside0.mk (Kd.R_below (by (with_reducible repeat (first | apply Kd.R_alloc | apply Kd.R_drewN | apply Kd.R_drew)); exact HO_8.out) hb); have n2_ := Aside0.mk (below_step (by repeat (first | (with_reducible first | exact HB.out | apply below_alloc | apply pw_below_drewN | apply below_drew1) | exact HB.out)) hb); clear HO_6; clear HO_8; clear HB; have HO_6 := n0_; have HO_8 := n1_; have HB := n2_; clear n0_ n1_ n2_; (try clear hb); (try clear hb2); (try clear hk); (try clear hi)))
            go_ret
            exact ⟨by first | rfl | (simp [errW_none, errW_some] <;> rfl) | (simp [*, errW_none, errW_some] <;> rfl), by repeat (first | (with_reducible first | exact HB.out | apply below_alloc | apply pw_below_drewN | apply below_drew1) | exact HB.out)⟩
        · rw [if_neg c8] at H
          exact absurd H (by simp)
      · rw [if_neg c7] at H
        have c7b0 : decide (x9_1 < (t292.length : Int)) = false := decide_eq_false c7
        clear c7
        replace H := Option.bind_eq_some_iff.mp H
        obtain ⟨⟨t301, t302⟩, A180, H⟩ := H
        replace H : (heliographlaw05_FrameBack.l1 k1 l1 t291 t292 x7_1 x8_1 0 0 0 t301 t302) = some r := H
        have A18 := Aside0.mk A180
        clear A180
        have H' := Aside0.mk H
        clear H
        obtain ⟨Ao19, co19, eo19⟩ := Kd.R_slice HO_6.out
        subst eo19
        go_wp2_with (first | ((with_reducible refine gate_callee (f := 25) rfl ?_); refine goesL_ (some 49) rfl rfl Tryd.func25 (by kernel_rfl) rfl #[] rfl (by (try simp only [List.map_toArray, List.map_cons, List.map_nil]); first | done | rfl | (simp only [List.length_drop, List.length_take]; rfl)) ?_; (with_reducible refine (frame_New.calls  t301 t302 w _ ?side1 A18.out).mono ?_); (case side1 => repeat (first | (with_reducible first | exact HB.out | apply below_alloc | apply pw_below_drewN | apply below_drew1) | exact HB.out)); rintro e w20 ⟨g303, rfl, hi, hb, hb2⟩; refine ⟨_, rfl, ?_⟩; have n0_ := Aside0.mk (Kd.R_below (by (with_reducible repeat (first | apply Kd.R_alloc | apply Kd.R_drewN | apply Kd.R_drew)); exact HO_6.out) hb2); have n1_ := Aside0.mk (Kd.R_below (by (with_reducible repeat (first | apply Kd.R_alloc | apply Kd.R_drewN | apply Kd.R_drew)); exact HO_8.out) hb2); have n2_ := Aside0.mk (hb); have n3_ := Aside0.mk (hi); clear HO_6; clear HO_8; clear HB; have HO_6 := n0_; have HO_8 := n1_; have HB := n2_; have HI303 := n3_; clear n0_ n1_ n2_ n3_; (try clear hb); (try clear hb2); (try clear hk); (try clear hi)))
        go_loopg [13, 14, 15] k1 (fun kq v13 v14 v15 w' => ∃ (x13_2 : Int) (x14_2 : Int) (x15_2 : Int) (x304000_2 : ByteArray) (x304001_2 : Bool), v13 = .int .i64 x13_2 ∧ v14 = .int .i64 x14_2 ∧ v15 = .int .i64 x15_2 ∧ Aside0 (heliographlaw05_FrameBack.l1 kq l1 t291 t292 x7_1 x8_1 x13_2 x14_2 x15_2 x304000_2 x304001_2 = some r) ∧ Aside0 (kq ≤ k1) ∧ Aside0 (Kd.R Kd.string 9 w' w.heap.size (fun _ => True) (.slice Ao19 t292.length co19) t292) ∧ Aside0 (Kd.R (Kd.int .i64) 3 w' w.heap.size (fun _ => True) u8 x8_1) ∧ Aside0 (IsS65 w w' g303 x304000_2 x304001_2) ∧ Aside0 (Below w.heap.size w w'))
        case atStart => exact ⟨(0), (0), (0), (t301), (t302), (by first | rfl | (simp; done) | (simp [*]; done)), (by first | rfl | (simp; done) | (simp [*]; done)), (by first | rfl | (simp; done) | (simp [*]; done)), H', ⟨Nat.le_refl _⟩, ⟨by (with_reducible repeat (first | apply Kd.R_alloc | apply Kd.R_drewN | apply Kd.R_drew)); exact HO_6.out⟩, ⟨by (with_reducible repeat (first | apply Kd.R_alloc | apply Kd.R_drewN | apply Kd.R_drew)); exact HO_8.out⟩, ⟨by repeat (first | (with_reducible first | exact HI303.out | apply IsS65.alloc | apply IsS65.drewN | apply IsS65.drew | apply IsS65.set_0 | apply IsS65.set_1) | exact HI303.out)⟩, ⟨by repeat (first | (with_reducible first | exact HB.out | apply below_alloc | apply pw_below_drewN | apply below_drew1 | refine below_set ?_ (IsS65.ge HI303.out)) | exact HB.out)⟩⟩
        case round =>
          clear H'
          try clear c1
          try clear c2
          try clear p2
          try clear q2
          try clear hx2
          try clear c3
          try clear p6
          try clear c7
          try clear c7b0
          try clear c8
          try clear c8b0
          try clear c9
          try clear c10
          try clear c10b0
          try clear c10b1
          try clear c11
          try clear c11b0
          try clear c11b1
          try clear c11b2
          try clear c12
          try clear hx295_0
          try clear p2
          try clear p295
          try clear q295
          obtain ⟨x13_2, x14_2, x15_2, x304000_2, x304001_2, rfl, rfl, rfl, HA, HK2, HO_6, HO_8, HI303, HB⟩ := hrel
          cases gk with
          | zero => exact absurd HA.out (by simp [heliographlaw05_FrameBack.l1])
          | succ k2 =>
            have H := HA.out
            clear HA
            simp only [heliographlaw05_FrameBack.l1] at H
            by_cases c21 : x13_2 < (x7_1.size : Int)
            · rw [if_pos c21] at H
              have c21b0 : decide (x13_2 < (x7_1.size : Int)) = true := decide_eq_true c21
              clear c21
              have HC22 := Aside0.mk H
              clear H
              go_upto_if 65 with (fail)
              go_cut [16] (fun v16 wc => ∃ (kq : Nat) (x16_21 : Int), v16 = .int .i64 x16_21 ∧ Aside0 (heliographlaw05_FrameBack.j2 kq l1 t291 t292 x7_1 x8_1 x13_2 x14_2 x15_2 x16_21 x304000_2 x304001_2 = some r) ∧ Aside0 (kq ≤ k2) ∧ Aside0 (Kd.R Kd.string 9 wc w.heap.size (fun _ => True) (.slice Ao19 t292.length co19) t292) ∧ Aside0 (Kd.R (Kd.int .i64) 3 wc w.heap.size (fun _ => True) u8 x8_1) ∧ Aside0 (IsS65 w wc g303 x304000_2 x304001_2) ∧ Aside0 (Below w.heap.size w wc))
              case first =>
                have H := HC22.out
                clear HC22
                by_cases c23 : x15_2 < (l1.length : Int)
                · rw [if_pos c23] at H
                  have c23b0 : decide (x15_2 < (l1.length : Int)) = true := decide_eq_true c23
                  clear c23
                  (first | rw [c23b0] | (simp only [i64_w, i32_w]; rw [c23b0]) | skip)
                  by_cases c24 : 0 ≤ x15_2
                  · rw [if_pos c24] at H
                    have c24b0 : decide (0 ≤ x15_2) = true := decide_eq_true c24
                    clear c24
                    by_cases c25 : (wrap64 ((Go.bits .and .i64 (rd l1 x15_2) 31) + 1)) < (wrap64 ((x7_1.size : Int) - x13_2))
                    · rw [if_pos c25] at H
                      have c25b0 : decide ((wrap64 ((Go.bits .and .i64 (rd l1 x15_2) 31) + 1)) < (wrap64 ((x7_1.size : Int) - x13_2))) = true := decide_eq_true c25
                      clear c25
                      have H' := Aside0.mk H
                      clear H
                      have p310 : 0 ≤ (x15_2 : Int) := of_decide_eq_true (by first | (with_reducible assumption) | assumption)
                      have q310 : x15_2 < (l1.length : Int) := of_decide_eq_true (by first | (with_reducible assumption) | assumption)
                      obtain ⟨ad310, e310, hx310_0⟩ := Kd.at_int HR1.out x15_2 p310 q310
                      cases e310
                      replace hx310_0 := (HB.out.cell (World.block_lt_of_cell? w _ hx310_0)).trans hx310_0
                      replace p310 := eq_true p310
                      replace q310 := eq_true q310
                      go_wp2
                      go_meet
                      case rel => exact ⟨_, (wrap64 ((Go.bits .and .i64 (rd l1 x15_2) 31) + 1)), (by first | rfl | (simp; done) | (simp [*]; done)), H', ⟨by have := HK1.out; have := HK2.out; first | omega | exact Nat.le_refl _⟩, ⟨by (with_reducible repeat (first | apply Kd.R_alloc | apply Kd.R_drewN | apply Kd.R_drew)); exact HO_6.out⟩, ⟨by (with_reducible repeat (first | apply Kd.R_alloc | apply Kd.R_drewN | apply Kd.R_drew)); exact HO_8.out⟩, ⟨by repeat (first | (with_reducible first | exact HI303.out | apply IsS65.alloc | apply IsS65.drewN | apply IsS65.drew | apply IsS65.set_0 | apply IsS65.set_1) | exact HI303.out)⟩, ⟨by repeat (first | (with_reducible first | exact HB.out | apply below_alloc | apply pw_below_drewN | apply below_drew1 | refine below_set ?_ (IsS65.ge HI303.out)) | exact HB.out)⟩⟩
                    · rw [if_neg c25] at H
                      have c25b0 : decide ((wrap64 ((Go.bits .and .i64 (rd l1 x15_2) 31) + 1)) < (wrap64 ((x7_1.size : Int) - x13_2))) = false := decide_eq_false c25
                      clear c25
                      have H' := Aside0.mk H
                      clear H
                      have p310 : 0 ≤ (x15_2 : Int) := of_decide_eq_true (by first | (with_reducible assumption) | assumption)
                      have q310 : x15_2 < (l1.length : Int) := of_decide_eq_true (by first | (with_reducible assumption) | assumption)
                      obtain ⟨ad310, e310, hx310_0⟩ := Kd.at_int HR1.out x15_2 p310 q310
                      cases e310
                      replace hx310_0 := (HB.out.cell (World.block_lt_of_cell? w _ hx310_0)).trans hx310_0
                      replace p310 := eq_true p310
                      replace q310 := eq_true q310
                      go_wp2
                      go_meet
                      case rel => exact ⟨_, (wrap64 ((x7_1.size : Int) - x13_2)), (by first | rfl | (simp; done) | (simp [*]; done)), H', ⟨by have := HK1.out; have := HK2.out; first | omega | exact Nat.le_refl _⟩, ⟨by (with_reducible repeat (first | apply Kd.R_alloc | apply Kd.R_drewN | apply Kd.R_drew)); exact HO_6.out⟩, ⟨by (with_reducible repeat (first | apply Kd.R_alloc | apply Kd.R_drewN | apply Kd.R_drew)); exact HO_8.out⟩, ⟨by repeat (first | (with_reducible first | exact HI303.out | apply IsS65.alloc | apply IsS65.drewN | apply IsS65.drew | apply IsS65.set_0 | apply IsS65.set_1) | exact HI303.out)⟩, ⟨by repeat (first | (with_reducible first | exact HB.out | apply below_alloc | apply pw_below_drewN | apply below_drew1 | refine below_set ?_ (IsS65.ge HI303.out)) | exact HB.out)⟩⟩
                  · rw [if_neg c24] at H
                    exact absurd H (by simp)
                · rw [if_neg c23] at H
                  have c23b0 : decide (x15_2 < (l1.length : Int)) = false := decide_eq_false c23
                  clear c23
                  (first | rw [c23b0] | (simp only [i64_w, i32_w]; rw [c23b0]) | skip)
                  have H' := Aside0.mk H
                  clear H
                  go_wp2
                  go_meet
                  case rel => exact ⟨_, (wrap64 ((x7_1.size : Int) - x13_2)), (by first | rfl | (simp; done) | (simp [*]; done)), H', ⟨by have := HK1.out; have := HK2.out; first | omega | exact Nat.le_refl _⟩, ⟨by (with_reducible repeat (first | apply Kd.R_alloc | apply Kd.R_drewN | apply Kd.R_drew)); exact HO_6.out⟩, ⟨by (with_reducible repeat (first | apply Kd.R_alloc | apply Kd.R_drewN | apply Kd.R_drew)); exact HO_8.out⟩, ⟨by repeat (first | (with_reducible first | exact HI303.out | apply IsS65.alloc | apply IsS65.drewN | apply IsS65.drew | apply IsS65.set_0 | apply IsS65.set_1) | exact HI303.out)⟩, ⟨by repeat (first | (with_reducible first | exact HB.out | apply below_alloc | apply pw_below_drewN | apply below_drew1 | refine below_set ?_ (IsS65.ge HI303.out)) | exact HB.out)⟩⟩
              case rest =>
                clear HC22
                try clear c1
                try clear c2
                try clear p2
                try clear q2
                try clear hx2
                try clear c3
                try clear p3
                try clear q3
                try clear hx3
                try clear p6
                try clear c7
                try clear c7b0
                try clear c8
                try clear c8b0
                try clear c9
                try clear c10
                try clear c10b0
                try clear c10b1
                try clear c11
                try clear c11b0
                try clear c11b1
                try clear c11b2
                try clear c12
                try clear c21
                try clear c21b0
                try clear c23
                try clear c23b0
                try clear c24
                try clear c24b0
                try clear c25
                try clear c25b0
                try clear hx295_0
                try clear hx310_0
                try clear p2
                try clear p295
                try clear p310
                try clear p6
                try clear q2
                try clear q295
                try clear q310
                obtain ⟨kq, x16_21, rfl, HA, HJ21, HO_6, HO_8, HI303, HB⟩ := hcut
                cases kq with
                | zero => exact absurd HA.out (by simp [heliographlaw05_FrameBack.j2])
                | succ kj21 =>
                  have H := HA.out
                  clear HA
                  simp only [heliographlaw05_FrameBack.j2] at H
                  by_cases c26 : 0 ≤ x13_2
                  · rw [if_pos c26] at H
                    have c26b0 := eq_true c26
                    have c26b1 : decide (0 ≤ x13_2) = true := decide_eq_true c26
                    clear c26
                    by_cases c27 : x13_2 ≤ (wrap64 (x13_2 + x16_21))
                    · rw [if_pos c27] at H
                      have c27b0 := eq_true c27
                      have c27b1 : decide (x13_2 ≤ (wrap64 (x13_2 + x16_21))) = true := decide_eq_true c27
                      by_cases c28 : (wrap64 (x13_2 + x16_21)) ≤ (x7_1.size : Int)
                      · rw [if_pos c28] at H
                        have c28b0 := eq_true c28
                        have c28b1 : decide ((wrap64 (x13_2 + x16_21)) ≤ (x7_1.size : Int)) = true := decide_eq_true c28
                        replace H := Option.bind_eq_some_iff.mp H
                        obtain ⟨⟨t311, t312, t313⟩, A290, H⟩ := H
                        replace H : (heliographlaw05_FrameBack.l2 kj21 l1 t291 t292 x7_1 x8_1 (wrap64 (x13_2 + x16_21)) x14_2 x15_2 t312 t313) = some r := H
                        have A29 := Aside0.mk A290
                        clear A290
                        have H' := Aside0.mk H
                        clear H
                        go_wp2_with (first | ((with_reducible refine gate_callee (f := 27) rfl ?_); refine goesL_ (some 84) rfl rfl Tryd.func27 (by kernel_rfl) rfl #[.pointer (some ⟨g303, 0, none⟩), .string (x7_1.extract (x13_2 : Int).toNat ((wrap64 (x13_2 + x16_21)) : Int).toNat)] rfl (by (try simp only [List.map_toArray, List.map_cons, List.map_nil]); first | done | rfl | (simp only [List.length_drop, List.length_take]; rfl)) ?_; (with_reducible refine (frame_Scanner_Feed.calls g303 x304000_2 x304001_2 (x7_1.extract (x13_2 : Int).toNat ((wrap64 (x13_2 + x16_21)) : Int).toNat) t311 t312 t313 w _ ?side1 ?side2 A29.out).mono ?_); (case side1 => repeat (first | (with_reducible first | exact HI303.out | apply IsS65.alloc | apply IsS65.drewN | apply IsS65.drew | apply IsS65.set_0 | apply IsS65.set_1) | exact HI303.out)); (case side2 => repeat (first | (with_reducible first | exact HB.out | apply below_alloc | apply pw_below_drewN | apply below_drew1 | refine below_set ?_ (IsS65.ge HI303.out)) | exact HB.out)); rintro e w30 ⟨rfl, hi, hb, hk⟩; refine ⟨_, rfl, ?_⟩; have n0_ := Aside0.mk (Kd.R_mono (Kd.R_keep (IsS65.apart (show IsS65 w _ g303 x304000_2 x304001_2 from by repeat (first | (with_reducible first | exact HI303.out | apply IsS65.alloc | apply IsS65.drewN | apply IsS65.drew | apply IsS65.set_0 | apply IsS65.set_1) | exact HI303.out)) (by (with_reducible repeat (first | apply Kd.R_alloc | apply Kd.R_drewN | apply Kd.R_drew)); exact HO_6.out) (by decide)) hk (fun _ h => h.2)) (fun _ h => h.1)); have n1_ := Aside0.mk (Kd.R_mono (Kd.R_keep (IsS65.apart (show IsS65 w _ g303 x304000_2 x304001_2 from by repeat (first | (with_reducible first | exact HI303.out | apply IsS65.alloc | apply IsS65.drewN | apply IsS65.drew | apply IsS65.set_0 | apply IsS65.set_1) | exact HI303.out)) (by (with_reducible repeat (first | apply Kd.R_alloc | apply Kd.R_drewN | apply Kd.R_drew)); exact HO_8.out) (by decide)) hk (fun _ h => h.2)) (fun _ h => h.1)); have n2_ := Aside0.mk (hb); have n3_ := Aside0.mk (hi); clear HO_6; clear HO_8; clear HB; clear HI303; have HO_6 := n0_; have HO_8 := n1_; have HB := n2_; have HI303 := n3_; clear n0_ n1_ n2_ n3_; (try clear hb); (try clear hb2); (try clear hk); (try clear hi)))
                        go_loopg [14] kj21 (fun kq v14 w' => ∃ (x14_4 : Int) (x304000_4 : ByteArray) (x304001_4 : Bool), v14 = .int .i64 x14_4 ∧ Aside0 (heliographlaw05_FrameBack.l2 kq l1 t291 t292 x7_1 x8_1 (wrap64 (x13_2 + x16_21)) x14_4 x15_2 x304000_4 x304001_4 = some r) ∧ Aside0 (kq ≤ kj21) ∧ Aside0 (Kd.R Kd.string 9 w' w.heap.size (fun _ => True) (.slice Ao19 t292.length co19) t292) ∧ Aside0 (Kd.R (Kd.int .i64) 3 w' w.heap.size (fun _ => True) u8 x8_1) ∧ Aside0 (IsS65 w w' g303 x304000_4 x304001_4) ∧ Aside0 (Below w.heap.size w w'))
                        case atStart => exact ⟨(x14_2), (t312), (t313), (by first | rfl | (simp; done) | (simp [*]; done)), H', ⟨Nat.le_refl _⟩, ⟨by (with_reducible repeat (first | apply Kd.R_alloc | apply Kd.R_drewN | apply Kd.R_drew)); exact HO_6.out⟩, ⟨by (with_reducible repeat (first | apply Kd.R_alloc | apply Kd.R_drewN | apply Kd.R_drew)); exact HO_8.out⟩, ⟨by repeat (first | (with_reducible first | exact HI303.out | apply IsS65.alloc | apply IsS65.drewN | apply IsS65.drew | apply IsS65.set_0 | apply IsS65.set_1) | exact HI303.out)⟩, ⟨by repeat (first | (with_reducible first | exact HB.out | apply below_alloc | apply pw_below_drewN | apply below_drew1 | refine below_set ?_ (IsS65.ge HI303.out)) | exact HB.out)⟩⟩
                        case round =>
                          clear H'
                          try clear c1
                          try clear c2
                          try clear p2
                          try clear q2
                          try clear hx2
                          try clear c3
                          try clear p3
                          try clear q3
                          try clear hx3
                          try clear p6
                          try clear c7
                          try clear c7b0
                          try clear c8
                          try clear c8b0
                          try clear c9
                          try clear c10
                          try clear c10b0
                          try clear c10b1
                          try clear c11
                          try clear c11b0
                          try clear c11b1
                          try clear c11b2
                          try clear c12
                          try clear c21
                          try clear c21b0
                          try clear c23
                          try clear c23b0
                          try clear c24
                          try clear c24b0
                          try clear c25
                          try clear c25b0
                          try clear c26
                          try clear c26b0
                          try clear c26b1
                          try clear c27
                          try clear c27b0
                          try clear c27b1
                          try clear c28
                          try clear c28b0
                          try clear c28b1
                          try clear p29
                          try clear q29
                          try clear hx29
                          try clear hx295_0
                          try clear hx310_0
                          try clear p2
                          try clear p295
                          try clear p3
                          try clear p310
                          try clear p6
                          try clear q2
                          try clear q295
                          try clear q3
                          try clear q310
                          obtain ⟨x14_4, x304000_4, x304001_4, rfl, HA, HK4, HO_6, HO_8, HI303, HB⟩ := hrel
                          cases gk with
                          | zero => exact absurd HA.out (by simp [heliographlaw05_FrameBack.l2])
                          | succ k4 =>
                            have H := HA.out
                            clear HA
                            simp only [heliographlaw05_FrameBack.l2] at H
                            have HC31 := Aside0.mk H
                            clear H
                            go_upto_region 28 with (fail)
                            go_cut [99] (fun v99 wc => ∃ (kq : Nat) (x99_30 : Bool), v99 = .bool x99_30 ∧ Aside0 (heliographlaw05_FrameBack.j4 kq l1 t291 t292 x7_1 x8_1 (wrap64 (x13_2 + x16_21)) x14_4 x15_2 x99_30 x304000_4 x304001_4 = some r) ∧ Aside0 (kq ≤ k4) ∧ Aside0 (Kd.R Kd.string 9 wc w.heap.size (fun _ => True) (.slice Ao19 t292.length co19) t292) ∧ Aside0 (Kd.R (Kd.int .i64) 3 wc w.heap.size (fun _ => True) u8 x8_1) ∧ Aside0 (IsS65 w wc g303 x304000_4 x304001_4) ∧ Aside0 (Below w.heap.size w wc))
                            case first =>
                              have H := HC31.out
                              clear HC31
                              by_cases c32 : x14_4 < (t292.length : Int)
                              · rw [if_pos c32] at H
                                have c32b0 : decide (x14_4 < (t292.length : Int)) = true := decide_eq_true c32
                                clear c32
                                (first | rw [c32b0] | (simp only [i64_w, i32_w]; rw [c32b0]) | skip)
                                by_cases c33 : 0 ≤ x14_4
                                · rw [if_pos c33] at H
                                  have c33b0 : decide (0 ≤ x14_4) = true := decide_eq_true c33
                                  clear c33
                                  by_cases c34 : x14_4 < (x8_1.length : Int)
                                  · rw [if_pos c34] at H
                                    have c34b0 : decide (x14_4 < (x8_1.length : Int)) = true := decide_eq_true c34
                                    clear c34
                                    have H' := Aside0.mk H
                                    clear H
                                    obtain ⟨Ao35, co35, eo35⟩ := Kd.R_slice HO_8.out
                                    subst eo35
                                    have p314 : 0 ≤ (x14_4 : Int) := of_decide_eq_true (by first | (with_reducible assumption) | assumption)
                                    have q314 : x14_4 < (x8_1.length : Int) := of_decide_eq_true (by first | (with_reducible assumption) | assumption)
                                    obtain ⟨ad314, e314, hx314_0⟩ := Kd.at_int (Kd.R_reads' HO_8.out).2.2 x14_4 p314 q314
                                    cases e314
                                    replace p314 := eq_true p314
                                    replace q314 := eq_true q314
                                    go_wp2
                                    go_meet
                                    case rel => exact ⟨_, (decide ((rd x8_1 x14_4) ≤ (wrap64 (x13_2 + x16_21)))), (by first | rfl | (simp; done) | (simp [*]; done)), H', ⟨by have := HK1.out; have := HK2.out; have := HJ21.out; have := HK4.out; first | omega | exact Nat.le_refl _⟩, ⟨by (with_reducible repeat (first | apply Kd.R_alloc | apply Kd.R_drewN | apply Kd.R_drew)); exact HO_6.out⟩, ⟨by (with_reducible repeat (first | apply Kd.R_alloc | apply Kd.R_drewN | apply Kd.R_drew)); exact HO_8.out⟩, ⟨by repeat (first | (with_reducible first | exact HI303.out | apply IsS65.alloc | apply IsS65.drewN | apply IsS65.drew | apply IsS65.set_0 | apply IsS65.set_1) | exact HI303.out)⟩, ⟨by repeat (first | (with_reducible first | exact HB.out | apply below_alloc | apply pw_below_drewN | apply below_drew1 | refine below_set ?_ (IsS65.ge HI303.out)) | exact HB.out)⟩⟩
                                  · rw [if_neg c34] at H
                                    exact absurd H (by simp)
                                · rw [if_neg c33] at H
                                  exact absurd H (by simp)
                              · rw [if_neg c32] at H
                                have c32b0 : decide (x14_4 < (t292.length : Int)) = false := decide_eq_false c32
                                clear c32
                                (first | rw [c32b0] | (simp only [i64_w, i32_w]; rw [c32b0]) | skip)
                                have H' := Aside0.mk H
                                clear H
                                go_wp2
                                go_meet
                                case rel => exact ⟨_, (false), (by first | rfl | (simp; done) | (simp [*]; done)), H', ⟨by have := HK1.out; have := HK2.out; have := HJ21.out; have := HK4.out; first | omega | exact Nat.le_refl _⟩, ⟨by (with_reducible repeat (first | apply Kd.R_alloc | apply Kd.R_drewN | apply Kd.R_drew)); exact HO_6.out⟩, ⟨by (with_reducible repeat (first | apply Kd.R_alloc | apply Kd.R_drewN | apply Kd.R_drew)); exact HO_8.out⟩, ⟨by repeat (first | (with_reducible first | exact HI303.out | apply IsS65.alloc | apply IsS65.drewN | apply IsS65.drew | apply IsS65.set_0 | apply IsS65.set_1) | exact HI303.out)⟩, ⟨by repeat (first | (with_reducible first | exact HB.out | apply below_alloc | apply pw_below_drewN | apply below_drew1 | refine below_set ?_ (IsS65.ge HI303.out)) | exact HB.out)⟩⟩
                            case rest =>
                              clear HC31
                              try clear c1
                              try clear c2
                              try clear p2
                              try clear q2
                              try clear hx2
                              try clear c3
                              try clear p3
                              try clear q3
                              try clear hx3
                              try clear p6
                              try clear c7
                              try clear c7b0
                              try clear c8
                              try clear c8b0
                              try clear c9
                              try clear c10
                              try clear c10b0
                              try clear c10b1
                              try clear c11
                              try clear c11b0
                              try clear c11b1
                              try clear c11b2
                              try clear c12
                              try clear c21
                              try clear c21b0
                              try clear c23
                              try clear c23b0
                              try clear c24
                              try clear c24b0
                              try clear c25
                              try clear c25b0
                              try clear c26
                              try clear c26b0
                              try clear c26b1
                              try clear c27
                              try clear c27b0
                              try clear c27b1
                              try clear c28
                              try clear c28b0
                              try clear c28b1
                              try clear p29
                              try clear q29
                              try clear hx29
                              try clear p31
                              try clear q31
                              try clear hx31
                              try clear c32
                              try clear c32b0
                              try clear c33
                              try clear c33b0
                              try clear c34
                              try clear c34b0
                              try clear hx295_0
                              try clear hx310_0
                              try clear hx314_0
                              try clear p2
                              try clear p29
                              try clear p295
                              try clear p3
                              try clear p310
                              try clear p314
                              try clear p6
                              try clear q2
                              try clear q29
                              try clear q295
                              try clear q3
                              try clear q310
                              try clear q314
                              obtain ⟨kq, x99_30, rfl, HA, HJ30, HO_6, HO_8, HI303, HB⟩ := hcut
                              cases kq with
                              | zero => exact absurd HA.out (by simp [heliographlaw05_FrameBack.j4])
                              | succ kj30 =>
                                have H := HA.out
                                clear HA
                                simp only [heliographlaw05_FrameBack.j4] at H
                                by_cases c36 : x99_30 = true
                                · subst c36
                                  have H1 : ((frame_Scanner_Next.f kj30 x304000_4 x304001_4).bind fun bt315 => (if bt315.2.1 = true then (if 0 ≤ x14_4 then (if x14_4 < (t292.length : Int) then (if bt315.1.toList = (rdOf ByteArray.empty t292 x14_4).toList then (heliographlaw05_FrameBack.l2 kj30 l1 t291 t292 x7_1 x8_1 (wrap64 (x13_2 + x16_21)) (wrap64 (x14_4 + 1)) x15_2 bt315.2.2.1 bt315.2.2.2) else (some false)) else (none)) else (none)) else (some false))) = some r := by rw [if_pos rfl] at H; exact H
                                  clear H
                                  have H := H1
                                  clear H1
                                  replace H := Option.bind_eq_some_iff.mp H
                                  obtain ⟨⟨t315, t316, t317, t318⟩, A370, H⟩ := H
                                  replace H : (if t316 = true then (if 0 ≤ x14_4 then (if x14_4 < (t292.length : Int) then (if t315.toList = (rdOf ByteArray.empty t292 x14_4).toList then (heliographlaw05_FrameBack.l2 kj30 l1 t291 t292 x7_1 x8_1 (wrap64 (x13_2 + x16_21)) (wrap64 (x14_4 + 1)) x15_2 t317 t318) else (some false)) else (none)) else (none)) else (some false)) = some r := H
                                  have A37 := Aside0.mk A370
                                  clear A370
                                  by_cases c38 : t316 = true
                                  · subst c38
                                    have H1 : (if 0 ≤ x14_4 then (if x14_4 < (t292.length : Int) then (if t315.toList = (rdOf ByteArray.empty t292 x14_4).toList then (heliographlaw05_FrameBack.l2 kj30 l1 t291 t292 x7_1 x8_1 (wrap64 (x13_2 + x16_21)) (wrap64 (x14_4 + 1)) x15_2 t317 t318) else (some false)) else (none)) else (none)) = some r := by rw [if_pos rfl] at H; exact H
                                    clear H
                                    have H := H1
                                    clear H1
                                    by_cases c39 : 0 ≤ x14_4
                                    · rw [if_pos c39] at H
                                      have c39b0 : decide (0 ≤ x14_4) = true := decide_eq_true c39
                                      clear c39
                                      by_cases c40 : x14_4 < (t292.length : Int)
                                      · rw [if_pos c40] at H
                                        have c40b0 : decide (x14_4 < (t292.length : Int)) = true := decide_eq_true c40
                                        clear c40
                                        by_cases c41 : t315.toList = (rdOf ByteArray.empty t292 x14_4).toList
                                        · rw [if_pos c41] at H
                                          have c41b0 : (t315.toList == (rdOf ByteArray.empty t292 x14_4).toList) = true := beq_iff_eq.mpr c41
                                          have c41b1 : (t315.toList != (rdOf ByteArray.empty t292 x14_4).toList) = false := bne_eq_false_iff_eq.mpr c41
                                          clear c41
                                          have H' := Aside0.mk H
                                          clear H
                                          go_wp2_with (first | ((with_reducible refine gate_callee (f := 28) rfl ?_); refine goesL_ (some 102) rfl rfl Tryd.func28 (by kernel_rfl) rfl #[.pointer (some ⟨g303, 0, none⟩)] rfl (by (try simp only [List.map_toArray, List.map_cons, List.map_nil]); first | done | rfl | (simp only [List.length_drop, List.length_take]; rfl)) ?_; (with_reducible refine (frame_Scanner_Next.calls kj30 g303 x304000_4 x304001_4 t315 true t317 t318 w _ ?side1 ?side2 ?side3 A37.out).mono ?_); (case side1 => repeat (first | (with_reducible first | exact HI303.out | apply IsS65.alloc | apply IsS65.drewN | apply IsS65.drew | apply IsS65.set_0 | apply IsS65.set_1) | exact HI303.out)); (case side2 => repeat (first | (with_reducible first | exact HB.out | apply below_alloc | apply pw_below_drewN | apply below_drew1 | refine below_set ?_ (IsS65.ge HI303.out)) | exact HB.out)); (case side3 => exact HTB.out); rintro e w42 ⟨rfl, hi, hb, hk⟩; refine ⟨_, rfl, ?_⟩; have n0_ := Aside0.mk (Kd.R_mono (Kd.R_keep (IsS65.apart (show IsS65 w _ g303 x304000_4 x304001_4 from by repeat (first | (with_reducible first | exact HI303.out | apply IsS65.alloc | apply IsS65.drewN | apply IsS65.drew | apply IsS65.set_0 | apply IsS65.set_1) | exact HI303.out)) (by (with_reducible repeat (first | apply Kd.R_alloc | apply Kd.R_drewN | apply Kd.R_drew)); exact HO_6.out) (by decide)) hk (fun _ h => h.2)) (fun _ h => h.1)); have n1_ := Aside0.mk (Kd.R_mono (Kd.R_keep (IsS65.apart (show IsS65 w _ g303 x304000_4 x304001_4 from by repeat (first | (with_reducible first | exact HI303.out | apply IsS65.alloc | apply IsS65.drewN | apply IsS65.drew | apply IsS65.set_0 | apply IsS65.set_1) | exact HI303.out)) (by (with_reducible repeat (first | apply Kd.R_alloc | apply Kd.R_drewN | apply Kd.R_drew)); exact HO_8.out) (by decide)) hk (fun _ h => h.2)) (fun _ h => h.1)); have n2_ := Aside0.mk (hb); have n3_ := Aside0.mk (hi); clear HO_6; clear HO_8; clear HB; clear HI303; have HO_6 := n0_; have HO_8 := n1_; have HB := n2_; have HI303 := n3_; clear n0_ n1_ n2_ n3_; (try clear hb); (try clear hb2); (try clear hk); (try clear hi); have p319 : 0 ≤ (x14_4 : Int) := of_decide_eq_true (by first | (with_reducible assumption) | assumption); have q319 : x14_4 < (t292.length : Int) := of_decide_eq_true (by first | (with_reducible assumption) | assumption); obtain ⟨ad319, e319, hx319_0⟩ := Kd.at_string (Kd.R_reads' HO_6.out).2.2 x14_4 p319 q319; cases e319; replace p319 := eq_true p319; replace q319 := eq_true q319))
                                          go_roundg kj30
                                          case measure => have := HK1.out; have := HK2.out; have := HJ21.out; have := HK4.out; have := HJ30.out; omega
                                          case rel => exact ⟨(wrap64 (x14_4 + 1)), (t317), (t318), (by first | rfl | (simp; done) | (simp [*]; done)), H', ⟨by have := HK1.out; have := HK2.out; have := HJ21.out; have := HK4.out; have := HJ30.out; omega⟩, ⟨by (with_reducible repeat (first | apply Kd.R_alloc | apply Kd.R_drewN | apply Kd.R_drew)); exact HO_6.out⟩, ⟨by (with_reducible repeat (first | apply Kd.R_alloc | apply Kd.R_drewN | apply Kd.R_drew)); exact HO_8.out⟩, ⟨by repeat (first | (with_reducible first | exact HI303.out | apply IsS65.alloc | apply IsS65.drewN | apply IsS65.drew | apply IsS65.set_0 | apply IsS65.set_1) | exact HI303.out)⟩, ⟨by repeat (first | (with_reducible first | exact HB.out | apply below_alloc | apply pw_below_drewN | apply below_drew1 | refine below_set ?_ (IsS65.ge HI303.out)) | exact HB.out)⟩⟩
                                        · rw [if_neg c41] at H
                                          have c41b0 : (t315.toList == (rdOf ByteArray.empty t292 x14_4).toList) = false := beq_eq_false_iff_ne.mpr c41
                                          have c41b1 : (t315.toList != (rdOf ByteArray.empty t292 x14_4).toList) = true := bne_iff_ne.mpr c41
                                          obtain rfl := Option.some.inj H
                                          go_wp2_with (first | ((with_reducible refine gate_callee (f := 28) rfl ?_); refine goesL_ (some 102) rfl rfl Tryd.func28 (by kernel_rfl) rfl #[.pointer (some ⟨g303, 0, none⟩)] rfl (by (try simp only [List.map_toArray, List.map_cons, List.map_nil]); first | done | rfl | (simp only [List.length_drop, List.length_take]; rfl)) ?_; (with_reducible refine (frame_Scanner_Next.calls kj30 g303 x304000_4 x304001_4 t315 true t317 t318 w _ ?side1 ?side2 ?side3 A37.out).mono ?_); (case side1 => repeat (first | (with_reducible first | exact HI303.out | apply IsS65.alloc | apply IsS65.drewN | apply IsS65.drew | apply IsS65.set_0 | apply IsS65.set_1) | exact HI303.out)); (case side2 => repeat (first | (with_reducible first | exact HB.out | apply below_alloc | apply pw_below_drewN | apply below_drew1 | refine below_set ?_ (IsS65.ge HI303.out)) | exact HB.out)); (case side3 => exact HTB.out); rintro e w43 ⟨rfl, hi, hb, hk⟩; refine ⟨_, rfl, ?_⟩; have n0_ := Aside0.mk (Kd.R_mono (Kd.R_keep (IsS65.apart (show IsS65 w _ g303 x304000_4 x304001_4 from by repeat (first | (with_reducible first | exact HI303.out | apply IsS65.alloc | apply IsS65.drewN | apply IsS65.drew | apply IsS65.set_0 | apply IsS65.set_1) | exact HI303.out)) (by (with_reducible repeat (first | apply Kd.R_alloc | apply Kd.R_drewN | apply Kd.R_drew)); exact HO_6.out) (by decide)) hk (fun _ h => h.2)) (fun _ h => h.1)); have n1_ := Aside0.mk (Kd.R_mono (Kd.R_keep (IsS65.apart (show IsS65 w _ g303 x304000_4 x304001_4 from by repeat (first | (with_reducible first | exact HI303.out | apply IsS65.alloc | apply IsS65.drewN | apply IsS65.drew | apply IsS65.set_0 | apply IsS65.set_1) | exact HI303.out)) (by (with_reducible repeat (first | apply Kd.R_alloc | apply Kd.R_drewN | apply Kd.R_drew)); exact HO_8.out) (by decide)) hk (fun _ h => h.2)) (fun _ h => h.1)); have n2_ := Aside0.mk (hb); have n3_ := Aside0.mk (hi); clear HO_6; clear HO_8; clear HB; clear HI303; have HO_6 := n0_; have HO_8 := n1_; have HB := n2_; have HI303 := n3_; clear n0_ n1_ n2_ n3_; (try clear hb); (try clear hb2); (try clear hk); (try clear hi); have p319 : 0 ≤ (x14_4 : Int) := of_decide_eq_true (by first | (with_reducible assumption) | assumption); have q319 : x14_4 < (t292.length : Int) := of_decide_eq_true (by first | (with_reducible assumption) | assumption); obtain ⟨ad319, e319, hx319_0⟩ := Kd.at_string (Kd.R_reads' HO_6.out).2.2 x14_4 p319 q319; cases e319; replace p319 := eq_true p319; replace q319 := eq_true q319))
                                          go_ret
                                          exact ⟨by first | rfl | (simp [errW_none, errW_some] <;> rfl) | (simp [*, errW_none, errW_some] <;> rfl), by repeat (first | (with_reducible first | exact HB.out | apply below_alloc | apply pw_below_drewN | apply below_drew1 | refine below_set ?_ (IsS65.ge HI303.out)) | exact HB.out)⟩
                                      · rw [if_neg c40] at H
                                        exact absurd H (by simp)
                                    · rw [if_neg c39] at H
                                      exact absurd H (by simp)
                                  · replace c38 := Bool.eq_false_iff.mpr c38
                                    subst c38
                                    have H1 : (some false) = some r := by rw [if_neg (show ¬ (false = true) by decide)] at H; exact H
                                    clear H
                                    have H := H1
                                    clear H1
                                    obtain rfl := Option.some.inj H
                                    go_wp2_with (first | ((with_reducible refine gate_callee (f := 28) rfl ?_); refine goesL_ (some 102) rfl rfl Tryd.func28 (by kernel_rfl) rfl #[.pointer (some ⟨g303, 0, none⟩)] rfl (by (try simp only [List.map_toArray, List.map_cons, List.map_nil]); first | done | rfl | (simp only [List.length_drop, List.length_take]; rfl)) ?_; (with_reducible refine (frame_Scanner_Next.calls kj30 g303 x304000_4 x304001_4 t315 false t317 t318 w _ ?side1 ?side2 ?side3 A37.out).mono ?_); (case side1 => repeat (first | (with_reducible first | exact HI303.out | apply IsS65.alloc | apply IsS65.drewN | apply IsS65.drew | apply IsS65.set_0 | apply IsS65.set_1) | exact HI303.out)); (case side2 => repeat (first | (with_reducible first | exact HB.out | apply below_alloc | apply pw_below_drewN | apply below_drew1 | refine below_set ?_ (IsS65.ge HI303.out)) | exact HB.out)); (case side3 => exact HTB.out); rintro e w44 ⟨rfl, hi, hb, hk⟩; refine ⟨_, rfl, ?_⟩; have n0_ := Aside0.mk (Kd.R_mono (Kd.R_keep (IsS65.apart (show IsS65 w _ g303 x304000_4 x304001_4 from by repeat (first | (with_reducible first | exact HI303.out | apply IsS65.alloc | apply IsS65.drewN | apply IsS65.drew | apply IsS65.set_0 | apply IsS65.set_1) | exact HI303.out)) (by (with_reducible repeat (first | apply Kd.R_alloc | apply Kd.R_drewN | apply Kd.R_drew)); exact HO_6.out) (by decide)) hk (fun _ h => h.2)) (fun _ h => h.1)); have n1_ := Aside0.mk (Kd.R_mono (Kd.R_keep (IsS65.apart (show IsS65 w _ g303 x304000_4 x304001_4 from by repeat (first | (with_reducible first | exact HI303.out | apply IsS65.alloc | apply IsS65.drewN | apply IsS65.drew | apply IsS65.set_0 | apply IsS65.set_1) | exact HI303.out)) (by (with_reducible repeat (first | apply Kd.R_alloc | apply Kd.R_drewN | apply Kd.R_drew)); exact HO_8.out) (by decide)) hk (fun _ h => h.2)) (fun _ h => h.1)); have n2_ := Aside0.mk (hb); have n3_ := Aside0.mk (hi); clear HO_6; clear HO_8; clear HB; clear HI303; have HO_6 := n0_; have HO_8 := n1_; have HB := n2_; have HI303 := n3_; clear n0_ n1_ n2_ n3_; (try clear hb); (try clear hb2); (try clear hk); (try clear hi)))
                                    go_ret
                                    exact ⟨by first | rfl | (simp [errW_none, errW_some] <;> rfl) | (simp [*, errW_none, errW_some] <;> rfl), by repeat (first | (with_reducible first | exact HB.out | apply below_alloc | apply pw_below_drewN | apply below_drew1 | refine below_set ?_ (IsS65.ge HI303.out)) | exact HB.out)⟩
                                · replace c36 := Bool.eq_false_iff.mpr c36
                                  subst c36
                                  have H1 : ((frame_Scanner_Next.f kj30 x304000_4 x304001_4).bind fun bt320 => (if bt320.2.1 = true then (some false) else (heliographlaw05_FrameBack.l1 kj30 l1 t291 t292 x7_1 x8_1 (wrap64 (x13_2 + x16_21)) x14_4 (wrap64 (x15_2 + 1)) bt320.2.2.1 bt320.2.2.2))) = some r := by rw [if_neg (show ¬ (false = true) by decide)] at H; exact H
                                  clear H
                                  have H := H1
                                  clear H1
                                  replace H := Option.bind_eq_some_iff.mp H
                                  obtain ⟨⟨t320, t321, t322, t323⟩, A450, H⟩ := H
                                  replace H : (if t321 = true then (some false) else (heliographlaw05_FrameBack.l1 kj30 l1 t291 t292 x7_1 x8_1 (wrap64 (x13_2 + x16_21)) x14_4 (wrap64 (x15_2 + 1)) t322 t323)) = some r := H
                                  have A45 := Aside0.mk A450
                                  clear A450
                                  by_cases c46 : t321 = true
                                  · subst c46
                                    have H1 : (some false) = some r := by rw [if_pos rfl] at H; exact H
                                    clear H
                                    have H := H1
                                    clear H1
                                    obtain rfl := Option.some.inj H
                                    go_wp2_with (first | ((with_reducible refine gate_callee (f := 28) rfl ?_); refine goesL_ (some 119) rfl rfl Tryd.func28 (by kernel_rfl) rfl #[.pointer (some ⟨g303, 0, none⟩)] rfl (by (try simp only [List.map_toArray, List.map_cons, List.map_nil]); first | done | rfl | (simp only [List.length_drop, List.length_take]; rfl)) ?_; (with_reducible refine (frame_Scanner_Next.calls kj30 g303 x304000_4 x304001_4 t320 true t322 t323 w _ ?side1 ?side2 ?side3 A45.out).mono ?_); (case side1 => repeat (first | (with_reducible first | exact HI303.out | apply IsS65.alloc | apply IsS65.drewN | apply IsS65.drew | apply IsS65.set_0 | apply IsS65.set_1) | exact HI303.out)); (case side2 => repeat (first | (with_reducible first | exact HB.out | apply below_alloc | apply pw_below_drewN | apply below_drew1 | refine below_set ?_ (IsS65.ge HI303.out)) | exact HB.out)); (case side3 => exact HTB.out); rintro e w47 ⟨rfl, hi, hb, hk⟩; refine ⟨_, rfl, ?_⟩; have n0_ := Aside0.mk (Kd.R_mono (Kd.R_keep (IsS65.apart (show IsS65 w _ g303 x304000_4 x304001_4 from by repeat (first | (with_reducible first | exact HI303.out | apply IsS65.alloc | apply IsS65.drewN | apply IsS65.drew | apply IsS65.set_0 | apply IsS65.set_1) | exact HI303.out)) (by (with_reducible repeat (first | apply Kd.R_alloc | apply Kd.R_drewN | apply Kd.R_drew)); exact HO_6.out) (by decide)) hk (fun _ h => h.2)) (fun _ h => h.1)); have n1_ := Aside0.mk (Kd.R_mono (Kd.R_keep (IsS65.apart (show IsS65 w _ g303 x304000_4 x304001_4 from by repeat (first | (with_reducible first | exact HI303.out | apply IsS65.alloc | apply IsS65.drewN | apply IsS65.drew | apply IsS65.set_0 | apply IsS65.set_1) | exact HI303.out)) (by (with_reducible repeat (first | apply Kd.R_alloc | apply Kd.R_drewN | apply Kd.R_drew)); exact HO_8.out) (by decide)) hk (fun _ h => h.2)) (fun _ h => h.1)); have n2_ := Aside0.mk (hb); have n3_ := Aside0.mk (hi); clear HO_6; clear HO_8; clear HB; clear HI303; have HO_6 := n0_; have HO_8 := n1_; have HB := n2_; have HI303 := n3_; clear n0_ n1_ n2_ n3_; (try clear hb); (try clear hb2); (try clear hk); (try clear hi)))
                                    go_ret
                                    exact ⟨by first | rfl | (simp [errW_none, errW_some] <;> rfl) | (simp [*, errW_none, errW_some] <;> rfl), by repeat (first | (with_reducible first | exact HB.out | apply below_alloc | apply pw_below_drewN | apply below_drew1 | refine below_set ?_ (IsS65.ge HI303.out)) | exact HB.out)⟩
                                  · replace c46 := Bool.eq_false_iff.mpr c46
                                    subst c46
                                    have H1 : (heliographlaw05_FrameBack.l1 kj30 l1 t291 t292 x7_1 x8_1 (wrap64 (x13_2 + x16_21)) x14_4 (wrap64 (x15_2 + 1)) t322 t323) = some r := by rw [if_neg (show ¬ (false = true) by decide)] at H; exact H
                                    clear H
                                    have H := H1
                                    clear H1
                                    have H' := Aside0.mk H
                                    clear H
                                    go_wp2_with (first | ((with_reducible refine gate_callee (f := 28) rfl ?_); refine goesL_ (some 119) rfl rfl Tryd.func28 (by kernel_rfl) rfl #[.pointer (some ⟨g303, 0, none⟩)] rfl (by (try simp only [List.map_toArray, List.map_cons, List.map_nil]); first | done | rfl | (simp only [List.length_drop, List.length_take]; rfl)) ?_; (with_reducible refine (frame_Scanner_Next.calls kj30 g303 x304000_4 x304001_4 t320 false t322 t323 w _ ?side1 ?side2 ?side3 A45.out).mono ?_); (case side1 => repeat (first | (with_reducible first | exact HI303.out | apply IsS65.alloc | apply IsS65.drewN | apply IsS65.drew | apply IsS65.set_0 | apply IsS65.set_1) | exact HI303.out)); (case side2 => repeat (first | (with_reducible first | exact HB.out | apply below_alloc | apply pw_below_drewN | apply below_drew1 | refine below_set ?_ (IsS65.ge HI303.out)) | exact HB.out)); (case side3 => exact HTB.out); rintro e w48 ⟨rfl, hi, hb, hk⟩; refine ⟨_, rfl, ?_⟩; have n0_ := Aside0.mk (Kd.R_mono (Kd.R_keep (IsS65.apart (show IsS65 w _ g303 x304000_4 x304001_4 from by repeat (first | (with_reducible first | exact HI303.out | apply IsS65.alloc | apply IsS65.drewN | apply IsS65.drew | apply IsS65.set_0 | apply IsS65.set_1) | exact HI303.out)) (by (with_reducible repeat (first | apply Kd.R_alloc | apply Kd.R_drewN | apply Kd.R_drew)); exact HO_6.out) (by decide)) hk (fun _ h => h.2)) (fun _ h => h.1)); have n1_ := Aside0.mk (Kd.R_mono (Kd.R_keep (IsS65.apart (show IsS65 w _ g303 x304000_4 x304001_4 from by repeat (first | (with_reducible first | exact HI303.out | apply IsS65.alloc | apply IsS65.drewN | apply IsS65.drew | apply IsS65.set_0 | apply IsS65.set_1) | exact HI303.out)) (by (with_reducible repeat (first | apply Kd.R_alloc | apply Kd.R_drewN | apply Kd.R_drew)); exact HO_8.out) (by decide)) hk (fun _ h => h.2)) (fun _ h => h.1)); have n2_ := Aside0.mk (hb); have n3_ := Aside0.mk (hi); clear HO_6; clear HO_8; clear HB; clear HI303; have HO_6 := n0_; have HO_8 := n1_; have HB := n2_; have HI303 := n3_; clear n0_ n1_ n2_ n3_; (try clear hb); (try clear hb2); (try clear hk); (try clear hi)))
                                    go_roundg kj30
                                    case measure => have := HK1.out; have := HK2.out; have := HJ21.out; have := HK4.out; have := HJ30.out; omega
                                    case rel => exact ⟨((wrap64 (x13_2 + x16_21))), (x14_4), (wrap64 (x15_2 + 1)), (t322), (t323), (by first | rfl | (simp; done) | (simp [*]; done)), (by first | rfl | (simp; done) | (simp [*]; done)), (by first | rfl | (simp; done) | (simp [*]; done)), H', ⟨by have := HK1.out; have := HK2.out; have := HJ21.out; have := HK4.out; have := HJ30.out; omega⟩, ⟨by (with_reducible repeat (first | apply Kd.R_alloc | apply Kd.R_drewN | apply Kd.R_drew)); exact HO_6.out⟩, ⟨by (with_reducible repeat (first | apply Kd.R_alloc | apply Kd.R_drewN | apply Kd.R_drew)); exact HO_8.out⟩, ⟨by repeat (first | (with_reducible first | exact HI303.out | apply IsS65.alloc | apply IsS65.drewN | apply IsS65.drew | apply IsS65.set_0 | apply IsS65.set_1) | exact HI303.out)⟩, ⟨by repeat (first | (with_reducible first | exact HB.out | apply below_alloc | apply pw_below_drewN | apply below_drew1 | refine below_set ?_ (IsS65.ge HI303.out)) | exact HB.out)⟩⟩
                      · rw [if_neg c28] at H
                        exact absurd H (by simp)
                    · rw [if_neg c27] at H
                      exact absurd H (by simp)
                  · rw [if_neg c26] at H
                    exact absurd H (by simp)
            · rw [if_neg c21] at H
              have c21b0 : decide (x13_2 < (x7_1.size : Int)) = false := decide_eq_false c21
              clear c21
              by_cases c49 : t291 = true
              · subst c49
                have H1 : (if x14_2 = (t292.length : Int) then ((frame_Scanner_Left.f x304000_2 x304001_2).bind fun bt304 => (if bt304.1 = 0 then ((frame_Scanner_Bad.f bt304.2.1 bt304.2.2).bind fun bt307 => (some (!bt307.1))) else (some false))) else (some false)) = some r := by rw [if_pos rfl] at H; exact H
                clear H
                have H := H1
                clear H1
                by_cases c50 : x14_2 = (t292.length : Int)
                · rw [if_pos c50] at H
                  have c50b0 : (x14_2 == (t292.length : Int)) = true := beq_iff_eq.mpr c50
                  have c50b1 : (x14_2 != (t292.length : Int)) = false := bne_eq_false_iff_eq.mpr c50
                  clear c50
                  replace H := Option.bind_eq_some_iff.mp H
                  obtain ⟨⟨t304, t305, t306⟩, A510, H⟩ := H
                  replace H : (if t304 = 0 then ((frame_Scanner_Bad.f t305 t306).bind fun bt307 => (some (!bt307.1))) else (some false)) = some r := H
                  have A51 := Aside0.mk A510
                  clear A510
                  by_cases c52 : t304 = 0
                  · rw [if_pos c52] at H
                    have c52b0 : (t304 == 0) = true := beq_iff_eq.mpr c52
                    have c52b1 : (t304 != 0) = false := bne_eq_false_iff_eq.mpr c52
                    clear c52
                    replace H := Option.bind_eq_some_iff.mp H
                    obtain ⟨⟨t307, t308, t309⟩, A530, H⟩ := H
                    replace H : (some (!t307)) = some r := H
                    have A53 := Aside0.mk A530
                    clear A530
                    obtain rfl := Option.some.inj H
                    go_wp2_with (first | (go_at_call 30; (with_reducible refine (frame_Scanner_Left.calls g303 x304000_2 x304001_2 t304 t305 t306 w _ ?side1 ?side2 A51.out).mono ?_); (case side1 => repeat (first | (with_reducible first | exact HI303.out | apply IsS65.alloc | apply IsS65.drewN | apply IsS65.drew | apply IsS65.set_0 | apply IsS65.set_1) | exact HI303.out)); (case side2 => repeat (first | (with_reducible first | exact HB.out | apply below_alloc | apply pw_below_drewN | apply below_drew1 | refine below_set ?_ (IsS65.ge HI303.out)) | exact HB.out)); rintro e w54 ⟨rfl, hi, hb, hk⟩; have n0_ := Aside0.mk (Kd.R_mono (Kd.R_keep (IsS65.apart (show IsS65 w _ g303 x304000_2 x304001_2 from by repeat (first | (with_reducible first | exact HI303.out | apply IsS65.alloc | apply IsS65.drewN | apply IsS65.drew | apply IsS65.set_0 | apply IsS65.set_1) | exact HI303.out)) (by (with_reducible repeat (first | apply Kd.R_alloc | apply Kd.R_drewN | apply Kd.R_drew)); exact HO_6.out) (by decide)) hk (fun _ h => h.2)) (fun _ h => h.1)); have n1_ := Aside0.mk (Kd.R_mono (Kd.R_keep (IsS65.apart (show IsS65 w _ g303 x304000_2 x304001_2 from by repeat (first | (with_reducible first | exact HI303.out | apply IsS65.alloc | apply IsS65.drewN | apply IsS65.drew | apply IsS65.set_0 | apply IsS65.set_1) | exact HI303.out)) (by (with_reducible repeat (first | apply Kd.R_alloc | apply Kd.R_drewN | apply Kd.R_drew)); exact HO_8.out) (by decide)) hk (fun _ h => h.2)) (fun _ h => h.1)); have n2_ := Aside0.mk (hb); have n3_ := Aside0.mk (hi); clear HO_6; clear HO_8; clear HB; clear HI303; have HO_6 := n0_; have HO_8 := n1_; have HB := n2_; have HI303 := n3_; clear n0_ n1_ n2_ n3_; (try clear hb); (try clear hb2); (try clear hk); (try clear hi)) | (go_at_call 31; (with_reducible refine (frame_Scanner_Bad.calls g303 t305 t306 t307 t308 t309 w _ ?side1 ?side2 A53.out).mono ?_); (case side1 => repeat (first | (with_reducible first | exact HI303.out | apply IsS65.alloc | apply IsS65.drewN | apply IsS65.drew | apply IsS65.set_0 | apply IsS65.set_1) | exact HI303.out)); (case side2 => repeat (first | (with_reducible first | exact HB.out | apply below_alloc | apply pw_below_drewN | apply below_drew1 | refine below_set ?_ (IsS65.ge HI303.out)) | exact HB.out)); rintro e w55 ⟨rfl, hi, hb, hk⟩; have n0_ := Aside0.mk (Kd.R_mono (Kd.R_keep (IsS65.apart (show IsS65 w _ g303 t305 t306 from by repeat (first | (with_reducible first | exact HI303.out | apply IsS65.alloc | apply IsS65.drewN | apply IsS65.drew | apply IsS65.set_0 | apply IsS65.set_1) | exact HI303.out)) (by (with_reducible repeat (first | apply Kd.R_alloc | apply Kd.R_drewN | apply Kd.R_drew)); exact HO_6.out) (by decide)) hk (fun _ h => h.2)) (fun _ h => h.1)); have n1_ := Aside0.mk (Kd.R_mono (Kd.R_keep (IsS65.apart (show IsS65 w _ g303 t305 t306 from by repeat (first | (with_reducible first | exact HI303.out | apply IsS65.alloc | apply IsS65.drewN | apply IsS65.drew | apply IsS65.set_0 | apply IsS65.set_1) | exact HI303.out)) (by (with_reducible repeat (first | apply Kd.R_alloc | apply Kd.R_drewN | apply Kd.R_drew)); exact HO_8.out) (by decide)) hk (fun _ h => h.2)) (fun _ h => h.1)); have n2_ := Aside0.mk (hb); have n3_ := Aside0.mk (hi); clear HO_6; clear HO_8; clear HB; clear HI303; have HO_6 := n0_; have HO_8 := n1_; have HB := n2_; have HI303 := n3_; clear n0_ n1_ n2_ n3_; (try clear hb); (try clear hb2); (try clear hk); (try clear hi)))
                    go_ret
                    exact ⟨by first | rfl | (simp [errW_none, errW_some] <;> rfl) | (simp [*, errW_none, errW_some] <;> rfl), by repeat (first | (with_reducible first | exact HB.out | apply below_alloc | apply pw_below_drewN | apply below_drew1 | refine below_set ?_ (IsS65.ge HI303.out)) | exact HB.out)⟩
                  · rw [if_neg c52] at H
                    have c52b0 : (t304 == 0) = false := beq_eq_false_iff_ne.mpr c52
                    have c52b1 : (t304 != 0) = true := bne_iff_ne.mpr c52
                    obtain rfl := Option.some.inj H
                    go_wp2_with (first | (go_at_call 30; (with_reducible refine (frame_Scanner_Left.calls g303 x304000_2 x304001_2 t304 t305 t306 w _ ?side1 ?side2 A51.out).mono ?_); (case side1 => repeat (first | (with_reducible first | exact HI303.out | apply IsS65.alloc | apply IsS65.drewN | apply IsS65.drew | apply IsS65.set_0 | apply IsS65.set_1) | exact HI303.out)); (case side2 => repeat (first | (with_reducible first | exact HB.out | apply below_alloc | apply pw_below_drewN | apply below_drew1 | refine below_set ?_ (IsS65.ge HI303.out)) | exact HB.out)); rintro e w56 ⟨rfl, hi, hb, hk⟩; have n0_ := Aside0.mk (Kd.R_mono (Kd.R_keep (IsS65.apart (show IsS65 w _ g303 x304000_2 x304001_2 from by repeat (first | (with_reducible first | exact HI303.out | apply IsS65.alloc | apply IsS65.drewN | apply IsS65.drew | apply IsS65.set_0 | apply IsS65.set_1) | exact HI303.out)) (by (with_reducible repeat (first | apply Kd.R_alloc | apply Kd.R_drewN | apply Kd.R_drew)); exact HO_6.out) (by decide)) hk (fun _ h => h.2)) (fun _ h => h.1)); have n1_ := Aside0.mk (Kd.R_mono (Kd.R_keep (IsS65.apart (show IsS65 w _ g303 x304000_2 x304001_2 from by repeat (first | (with_reducible first | exact HI303.out | apply IsS65.alloc | apply IsS65.drewN | apply IsS65.drew | apply IsS65.set_0 | apply IsS65.set_1) | exact HI303.out)) (by (with_reducible repeat (first | apply Kd.R_alloc | apply Kd.R_drewN | apply Kd.R_drew)); exact HO_8.out) (by decide)) hk (fun _ h => h.2)) (fun _ h => h.1)); have n2_ := Aside0.mk (hb); have n3_ := Aside0.mk (hi); clear HO_6; clear HO_8; clear HB; clear HI303; have HO_6 := n0_; have HO_8 := n1_; have HB := n2_; have HI303 := n3_; clear n0_ n1_ n2_ n3_; (try clear hb); (try clear hb2); (try clear hk); (try clear hi)))
                    go_ret
                    exact ⟨by first | rfl | (simp [errW_none, errW_some] <;> rfl) | (simp [*, errW_none, errW_some] <;> rfl), by repeat (first | (with_reducible first | exact HB.out | apply below_alloc | apply pw_below_drewN | apply below_drew1 | refine below_set ?_ (IsS65.ge HI303.out)) | exact HB.out)⟩
                · rw [if_neg c50] at H
                  have c50b0 : (x14_2 == (t292.length : Int)) = false := beq_eq_false_iff_ne.mpr c50
                  have c50b1 : (x14_2 != (t292.length : Int)) = true := bne_iff_ne.mpr c50
                  obtain rfl := Option.some.inj H
                  go_wp2
                  go_ret
                  exact ⟨by first | rfl | (simp [errW_none, errW_some] <;> rfl) | (simp [*, errW_none, errW_some] <;> rfl), by repeat (first | (with_reducible first | exact HB.out | apply below_alloc | apply pw_below_drewN | apply below_drew1 | refine below_set ?_ (IsS65.ge HI303.out)) | exact HB.out)⟩
              · replace c49 := Bool.eq_false_iff.mpr c49
                subst c49
                have H1 : (some false) = some r := by rw [if_neg (show ¬ (false = true) by decide)] at H; exact H
                clear H
                have H := H1
                clear H1
                obtain rfl := Option.some.inj H
                go_wp2
                go_ret
                exact ⟨by first | rfl | (simp [errW_none, errW_some] <;> rfl) | (simp [*, errW_none, errW_some] <;> rfl), by repeat (first | (with_reducible first | exact HB.out | apply below_alloc | apply pw_below_drewN | apply below_drew1 | refine below_set ?_ (IsS65.ge HI303.out)) | exact HB.out)⟩

end Go.Proofs.YtbanbeaemmlikaaDoor.Px
