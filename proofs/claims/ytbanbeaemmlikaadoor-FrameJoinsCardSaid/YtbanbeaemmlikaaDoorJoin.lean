/- Written by px.py, a program of this place (it runs the print of the kit with turns of its own): each Go function as a plain Lean function, and the proof that a call of the Go function comes to it. Conditions: none but what each theorem says. -/
import Derived.Test.YtbanbeaemmlikaaDoorPx0
import Derived.Test.YtbanbeaemmlikaaDoorPx9
import Derived.Test.YtbanbeaemmlikaaDoorPx13
import Derived.Test.YtbanbeaemmlikaaDoorPx16
import Derived.Test.YtbanbeaemmlikaaDoorFall
namespace Go.Proofs.YtbanbeaemmlikaaDoor.Px
open Go.RowKit Go.Proofs.YtbanbeaemmlikaaDoorW.PrintWords Go.Proofs.YtbanbeaemmlikaaDoorW.PrintLast Go.Proofs.YtbanbeaemmlikaaDoorW.PrintMore
attribute [local go_sem high] not_u32
attribute [local go_sem] max2_int min2_int max_two min_two max_three min_three max_four min_four   -- for this text's walks alone
set_option linter.unusedVariables false
set_option linter.unusedSimpArgs false

/-! ### heliographlaw05_FrameJoins: function 14 -/
def heliographlaw05_FrameJoins.j0 : Nat → ByteArray → Bool → List ByteArray → List ByteArray → ByteArray → List ByteArray → Bool → Option (Bool)
  | 0, _, _, _, _, _, _, _ => none
  | k + 1, x2, x7, x8, x9, x10, x14, x77 => if x77 = true then (some false) else (if 0 ≤ (x8.length : Int) then (if (x8.length : Int) ≤ (x14.length : Int) then ((heliographlaw05_same.f k (x14.take ((x8.length : Int) : Int).toNat) x8).bind fun t432 => ((heliographlaw05_same.f k (x14.drop ((x8.length : Int) : Int).toNat) x9).bind fun t437 => ((heliographlaw05_short.f x2 100).bind fun t438 => ((frame_Scan.f k t438).bind fun bt439 => (if x10.size + t438.size ≤ 9223372036854775807 then ((frame_Scan.f k (x10 ++ t438)).bind fun bt444 => (if (bt444.1.length : Int) = (wrap64 ((x8.length : Int) + (bt439.1.length : Int))) then (if (x8.length : Int) ≤ (bt444.1.length : Int) then ((heliographlaw05_same.f k (bt444.1.drop ((x8.length : Int) : Int).toNat) bt439.1).bind fun t453 => (if x7 = true then (if t432 = true then (if t437 = true then (if t453 = true then (if bt444.2.1 = (wrap64 ((x10.size : Int) + bt439.2.1)) then (some (bt444.2.2 == bt439.2.2)) else (some false)) else (some false)) else (some false)) else (some false)) else (some false))) else (none)) else (some false))) else (none)))))) else (none)) else (none))
def heliographlaw05_FrameJoins.f (k : Nat) (l0 : List ByteArray) (l1 : List ByteArray) (a2 : ByteArray) : Option (Bool) := (heliographlaw05_awake.f k).bind fun t412 => ((heliographlaw05_few.f k l0).bind fun t413 => ((heliographlaw05_few.f k l1).bind fun t416 => ((frame_All.f k t413).bind fun bt419 => ((frame_All.f k t416).bind fun bt421 => (if bt419.1.size + bt421.1.size ≤ 9223372036854775807 then ((frame_Scan.f k (bt419.1 ++ bt421.1)).bind fun bt423 => (if bt419.2 = 0 then (if bt421.2 = 0 then (if bt423.2.2 = 1 then (if bt423.2.1 = ((bt419.1.size : Int) + (bt421.1.size : Int)) then (heliographlaw05_FrameJoins.j0 k a2 t412 t413 t416 bt419.1 bt423.1 ((bt423.1.length : Int) != (wrap64 ((t413.length : Int) + (t416.length : Int))))) else (heliographlaw05_FrameJoins.j0 k a2 t412 t413 t416 bt419.1 bt423.1 true)) else (heliographlaw05_FrameJoins.j0 k a2 t412 t413 t416 bt419.1 bt423.1 true)) else (heliographlaw05_FrameJoins.j0 k a2 t412 t413 t416 bt419.1 bt423.1 true)) else (heliographlaw05_FrameJoins.j0 k a2 t412 t413 t416 bt419.1 bt423.1 true))) else (none))))))
theorem heliographlaw05_FrameJoins.mono_l : ∀ k, (∀ y0 y1 y2 y3 y4 y5 y6, LeO (heliographlaw05_FrameJoins.j0 k y0 y1 y2 y3 y4 y5 y6) (heliographlaw05_FrameJoins.j0 (k + 1) y0 y1 y2 y3 y4 y5 y6))
  | 0 => fun _ _ _ _ _ _ _ r h => by simp [heliographlaw05_FrameJoins.j0] at h
  | k + 1 => by
    have ih0 := heliographlaw05_FrameJoins.mono_l k
    · intro y0 y1 y2 y3 y4 y5 y6
      unfold heliographlaw05_FrameJoins.j0
      repeat' first
      | (with_reducible exact ih0 _ _ _ _ _ _ _)
      | (with_reducible exact frame_All.mono _ _)
      | (with_reducible exact frame_Scan.mono _ _)
      | (with_reducible exact heliographlaw05_awake.mono _)
      | (with_reducible exact heliographlaw05_few.mono _ _)
      | (with_reducible exact heliographlaw05_same.mono _ _ _)
      | (with_reducible exact LeO.refl _)
      | (with_reducible exact LeO.none _)
      | (with_reducible refine LeO.ite ?_ ?_)
      | (with_reducible refine LeO.bind ?_ (fun _ => ?_))
      | exact ih0 _ _ _ _ _ _ _
      | exact frame_All.mono _ _
      | exact frame_Scan.mono _ _
      | exact heliographlaw05_awake.mono _
      | exact heliographlaw05_few.mono _ _
      | exact heliographlaw05_same.mono _ _ _
      | exact LeO.none _
      | refine LeO.ite ?_ ?_
      | refine LeO.bind ?_ (fun _ => ?_)
theorem heliographlaw05_FrameJoins.mono : ∀ a0 a1 a2 k, LeO (heliographlaw05_FrameJoins.f k a0 a1 a2) (heliographlaw05_FrameJoins.f (k + 1) a0 a1 a2) := by
  intro a0 a1 a2 k
  have ih0 := heliographlaw05_FrameJoins.mono_l k
  unfold heliographlaw05_FrameJoins.f
  repeat' first
      | (with_reducible exact ih0 _ _ _ _ _ _ _)
      | (with_reducible exact frame_All.mono _ _)
      | (with_reducible exact frame_Scan.mono _ _)
      | (with_reducible exact heliographlaw05_awake.mono _)
      | (with_reducible exact heliographlaw05_few.mono _ _)
      | (with_reducible exact heliographlaw05_same.mono _ _ _)
      | (with_reducible exact LeO.refl _)
      | (with_reducible exact LeO.none _)
      | (with_reducible refine LeO.ite ?_ ?_)
      | (with_reducible refine LeO.bind ?_ (fun _ => ?_))
      | exact ih0 _ _ _ _ _ _ _
      | exact frame_All.mono _ _
      | exact frame_Scan.mono _ _
      | exact heliographlaw05_awake.mono _
      | exact heliographlaw05_few.mono _ _
      | exact heliographlaw05_same.mono _ _ _
      | exact LeO.none _
      | refine LeO.ite ?_ ?_
      | refine LeO.bind ?_ (fun _ => ?_)
theorem heliographlaw05_FrameJoins.j0_true {k : Nat} {x2 : ByteArray} {x7 : Bool} {x8 : List ByteArray} {x9 : List ByteArray} {x10 : ByteArray} {x14 : List ByteArray} (h : heliographlaw05_FrameJoins.j0 k x2 x7 x8 x9 x10 x14 true = some true) : False := by
  cases k <;> simp [heliographlaw05_FrameJoins.j0] at h
set_option maxHeartbeats 8000000 in
set_option maxRecDepth 100000 in
theorem heliographlaw05_FrameJoins.calls (k : Nat) (A0 : Option Addr) (c0 : Nat) (l0 : List ByteArray) (A1 : Option Addr) (c1 : Nat) (l1 : List ByteArray) (a2 : ByteArray) (_r : Bool) (w : World) (hr0 : Kd.C Kd.string w A0 l0.length l0) (hc0 : l0.length ≤ c0) (hr1 : Kd.C Kd.string w A1 l1.length l1) (hc1 : l1.length ≤ c1) (hT : TabIn w) (h : heliographlaw05_FrameJoins.f k l0 l1 a2 = some true) :
    Calls Tryd.prog 14 #[.slice A0 l0.length c0, .slice A1 l1.length c1, .string a2] w fun e w' => e = .returned (.bool true) ∧ Below w.heap.size w w' := by
  have HTB := Aside0.mk hT
  clear hT
  have HR0 := Aside0.mk hr0
  have HC0 := Aside0.mk hc0
  clear hr0 hc0
  have HR1 := Aside0.mk hr1
  have HC1 := Aside0.mk hc1
  clear hr1 hc1
  have HB := Aside0.mk (Below.refl w.heap.size w)
  have H : ((heliographlaw05_awake.f k).bind fun t412 => ((heliographlaw05_few.f k l0).bind fun t413 => ((heliographlaw05_few.f k l1).bind fun t416 => ((frame_All.f k t413).bind fun bt419 => ((frame_All.f k t416).bind fun bt421 => (if bt419.1.size + bt421.1.size ≤ 9223372036854775807 then ((frame_Scan.f k (bt419.1 ++ bt421.1)).bind fun bt423 => (if bt419.2 = 0 then (if bt421.2 = 0 then (if bt423.2.2 = 1 then (if bt423.2.1 = ((bt419.1.size : Int) + (bt421.1.size : Int)) then (heliographlaw05_FrameJoins.j0 k a2 t412 t413 t416 bt419.1 bt423.1 ((bt423.1.length : Int) != (wrap64 ((t413.length : Int) + (t416.length : Int))))) else (heliographlaw05_FrameJoins.j0 k a2 t412 t413 t416 bt419.1 bt423.1 true)) else (heliographlaw05_FrameJoins.j0 k a2 t412 t413 t416 bt419.1 bt423.1 true)) else (heliographlaw05_FrameJoins.j0 k a2 t412 t413 t416 bt419.1 bt423.1 true)) else (heliographlaw05_FrameJoins.j0 k a2 t412 t413 t416 bt419.1 bt423.1 true))) else (none))))))) = some true := h
  clear h
  replace H := Option.bind_eq_some_iff.mp H
  obtain ⟨t412, A40, H⟩ := H
  replace H : ((heliographlaw05_few.f k l0).bind fun t413 => ((heliographlaw05_few.f k l1).bind fun t416 => ((frame_All.f k t413).bind fun bt419 => ((frame_All.f k t416).bind fun bt421 => (if bt419.1.size + bt421.1.size ≤ 9223372036854775807 then ((frame_Scan.f k (bt419.1 ++ bt421.1)).bind fun bt423 => (if bt419.2 = 0 then (if bt421.2 = 0 then (if bt423.2.2 = 1 then (if bt423.2.1 = ((bt419.1.size : Int) + (bt421.1.size : Int)) then (heliographlaw05_FrameJoins.j0 k a2 t412 t413 t416 bt419.1 bt423.1 ((bt423.1.length : Int) != (wrap64 ((t413.length : Int) + (t416.length : Int))))) else (heliographlaw05_FrameJoins.j0 k a2 t412 t413 t416 bt419.1 bt423.1 true)) else (heliographlaw05_FrameJoins.j0 k a2 t412 t413 t416 bt419.1 bt423.1 true)) else (heliographlaw05_FrameJoins.j0 k a2 t412 t413 t416 bt419.1 bt423.1 true)) else (heliographlaw05_FrameJoins.j0 k a2 t412 t413 t416 bt419.1 bt423.1 true))) else (none)))))) = some true := H
  have A4 := Aside0.mk A40
  clear A40
  replace H := Option.bind_eq_some_iff.mp H
  obtain ⟨t413, A50, H⟩ := H
  replace H : ((heliographlaw05_few.f k l1).bind fun t416 => ((frame_All.f k t413).bind fun bt419 => ((frame_All.f k t416).bind fun bt421 => (if bt419.1.size + bt421.1.size ≤ 9223372036854775807 then ((frame_Scan.f k (bt419.1 ++ bt421.1)).bind fun bt423 => (if bt419.2 = 0 then (if bt421.2 = 0 then (if bt423.2.2 = 1 then (if bt423.2.1 = ((bt419.1.size : Int) + (bt421.1.size : Int)) then (heliographlaw05_FrameJoins.j0 k a2 t412 t413 t416 bt419.1 bt423.1 ((bt423.1.length : Int) != (wrap64 ((t413.length : Int) + (t416.length : Int))))) else (heliographlaw05_FrameJoins.j0 k a2 t412 t413 t416 bt419.1 bt423.1 true)) else (heliographlaw05_FrameJoins.j0 k a2 t412 t413 t416 bt419.1 bt423.1 true)) else (heliographlaw05_FrameJoins.j0 k a2 t412 t413 t416 bt419.1 bt423.1 true)) else (heliographlaw05_FrameJoins.j0 k a2 t412 t413 t416 bt419.1 bt423.1 true))) else (none))))) = some true := H
  have A5 := Aside0.mk A50
  clear A50
  replace H := Option.bind_eq_some_iff.mp H
  obtain ⟨t416, A60, H⟩ := H
  replace H : ((frame_All.f k t413).bind fun bt419 => ((frame_All.f k t416).bind fun bt421 => (if bt419.1.size + bt421.1.size ≤ 9223372036854775807 then ((frame_Scan.f k (bt419.1 ++ bt421.1)).bind fun bt423 => (if bt419.2 = 0 then (if bt421.2 = 0 then (if bt423.2.2 = 1 then (if bt423.2.1 = ((bt419.1.size : Int) + (bt421.1.size : Int)) then (heliographlaw05_FrameJoins.j0 k a2 t412 t413 t416 bt419.1 bt423.1 ((bt423.1.length : Int) != (wrap64 ((t413.length : Int) + (t416.length : Int))))) else (heliographlaw05_FrameJoins.j0 k a2 t412 t413 t416 bt419.1 bt423.1 true)) else (heliographlaw05_FrameJoins.j0 k a2 t412 t413 t416 bt419.1 bt423.1 true)) else (heliographlaw05_FrameJoins.j0 k a2 t412 t413 t416 bt419.1 bt423.1 true)) else (heliographlaw05_FrameJoins.j0 k a2 t412 t413 t416 bt419.1 bt423.1 true))) else (none)))) = some true := H
  have A6 := Aside0.mk A60
  clear A60
  replace H := Option.bind_eq_some_iff.mp H
  obtain ⟨⟨t419, t420⟩, A70, H⟩ := H
  replace H : ((frame_All.f k t416).bind fun bt421 => (if t419.size + bt421.1.size ≤ 9223372036854775807 then ((frame_Scan.f k (t419 ++ bt421.1)).bind fun bt423 => (if t420 = 0 then (if bt421.2 = 0 then (if bt423.2.2 = 1 then (if bt423.2.1 = ((t419.size : Int) + (bt421.1.size : Int)) then (heliographlaw05_FrameJoins.j0 k a2 t412 t413 t416 t419 bt423.1 ((bt423.1.length : Int) != (wrap64 ((t413.length : Int) + (t416.length : Int))))) else (heliographlaw05_FrameJoins.j0 k a2 t412 t413 t416 t419 bt423.1 true)) else (heliographlaw05_FrameJoins.j0 k a2 t412 t413 t416 t419 bt423.1 true)) else (heliographlaw05_FrameJoins.j0 k a2 t412 t413 t416 t419 bt423.1 true)) else (heliographlaw05_FrameJoins.j0 k a2 t412 t413 t416 t419 bt423.1 true))) else (none))) = some true := H
  have A7 := Aside0.mk A70
  clear A70
  replace H := Option.bind_eq_some_iff.mp H
  obtain ⟨⟨t421, t422⟩, A80, H⟩ := H
  replace H : (if t419.size + t421.size ≤ 9223372036854775807 then ((frame_Scan.f k (t419 ++ t421)).bind fun bt423 => (if t420 = 0 then (if t422 = 0 then (if bt423.2.2 = 1 then (if bt423.2.1 = ((t419.size : Int) + (t421.size : Int)) then (heliographlaw05_FrameJoins.j0 k a2 t412 t413 t416 t419 bt423.1 ((bt423.1.length : Int) != (wrap64 ((t413.length : Int) + (t416.length : Int))))) else (heliographlaw05_FrameJoins.j0 k a2 t412 t413 t416 t419 bt423.1 true)) else (heliographlaw05_FrameJoins.j0 k a2 t412 t413 t416 t419 bt423.1 true)) else (heliographlaw05_FrameJoins.j0 k a2 t412 t413 t416 t419 bt423.1 true)) else (heliographlaw05_FrameJoins.j0 k a2 t412 t413 t416 t419 bt423.1 true))) else (none)) = some true := H
  have A8 := Aside0.mk A80
  clear A80
  by_cases c9 : t419.size + t421.size ≤ 9223372036854775807
  · rw [if_pos c9] at H
    have c9b0 := eq_true c9
    have c9b1 : decide (t419.size + t421.size ≤ 9223372036854775807) = true := decide_eq_true c9
    try have c9b2 : (9223372036854775807 < t419.size + t421.size) = False := eq_false (Nat.not_lt.2 c9)
    replace H := Option.bind_eq_some_iff.mp H
    obtain ⟨⟨t423, t424, t425⟩, A100, H⟩ := H
    replace H : (if t420 = 0 then (if t422 = 0 then (if t425 = 1 then (if t424 = ((t419.size : Int) + (t421.size : Int)) then (heliographlaw05_FrameJoins.j0 k a2 t412 t413 t416 t419 t423 ((t423.length : Int) != (wrap64 ((t413.length : Int) + (t416.length : Int))))) else (heliographlaw05_FrameJoins.j0 k a2 t412 t413 t416 t419 t423 true)) else (heliographlaw05_FrameJoins.j0 k a2 t412 t413 t416 t419 t423 true)) else (heliographlaw05_FrameJoins.j0 k a2 t412 t413 t416 t419 t423 true)) else (heliographlaw05_FrameJoins.j0 k a2 t412 t413 t416 t419 t423 true)) = some true := H
    have A10 := Aside0.mk A100
    clear A100
    have HC11 := Aside0.mk H
    clear H
    go_enter Tryd.func14, Tryd.ntmps14
    go_upto_region 7 with (first | ((with_reducible refine gate_callee (f := 24) rfl ?_); refine goesL_ (some 26) rfl rfl Tryd.func24 (by kernel_rfl) rfl #[] rfl (by (try simp only [List.map_toArray, List.map_cons, List.map_nil]); first | done | rfl | (simp only [List.length_drop, List.length_take]; rfl)) ?_; (with_reducible refine (heliographlaw05_awake.calls k  t412 _ ?side1 A4.out).mono ?_); (case side1 => exact TabIn.below HTB.out (by repeat (first | (with_reducible first | exact HB.out | apply below_alloc | apply pw_below_drewN | apply below_drew1) | exact HB.out))); rintro e w12 ⟨rfl, hb⟩; refine ⟨_, rfl, ?_⟩; have n0_ := Aside0.mk (below_step (by repeat (first | (with_reducible first | exact HB.out | apply below_alloc | apply pw_below_drewN | apply below_drew1) | exact HB.out)) hb); clear HB; have HB := n0_; clear n0_; (try clear hb); (try clear hb2); (try clear hk); (try clear hi)) | ((with_reducible refine gate_callee (f := 36) rfl ?_); refine goesL_ (some 28) rfl rfl Tryd.func36 (by kernel_rfl) rfl #[.slice A0 l0.length c0] rfl (by (try simp only [List.map_toArray, List.map_cons, List.map_nil]); first | done | rfl | (simp only [List.length_drop, List.length_take]; rfl)) ?_; (with_reducible refine (heliographlaw05_few.calls k _ _ l0 t413 _ ?side1 ?side2 A5.out).mono ?_); (case side1 => repeat (first | exact (Kd.C_below HR0.out HB.out) | (with_reducible refine Kd.C_alloc ?_ _) | (with_reducible refine Kd.C_drewN ?_ _) | (with_reducible refine Kd.C_drew ?_))); (case side2 => exact HC0.out); rintro e w13 ⟨v414, rfl, ho0, hb⟩; refine ⟨_, rfl, ?_⟩; have n0_ := Aside0.mk (Kd.R_lower ho0 (below_size (by repeat (first | (with_reducible first | exact HB.out | apply below_alloc | apply pw_below_drewN | apply below_drew1) | exact HB.out)))); have n1_ := Aside0.mk (below_step (by repeat (first | (with_reducible first | exact HB.out | apply below_alloc | apply pw_below_drewN | apply below_drew1) | exact HB.out)) hb); clear HB; have HO415 := n0_; have HB := n1_; clear n0_ n1_; (try clear hb); (try clear hb2); (try clear hk); (try clear hi); (try clear ho0)) | ((with_reducible refine gate_callee (f := 36) rfl ?_); refine goesL_ (some 30) rfl rfl Tryd.func36 (by kernel_rfl) rfl #[.slice A1 l1.length c1] rfl (by (try simp only [List.map_toArray, List.map_cons, List.map_nil]); first | done | rfl | (simp only [List.length_drop, List.length_take]; rfl)) ?_; (with_reducible refine (heliographlaw05_few.calls k _ _ l1 t416 _ ?side1 ?side2 A6.out).mono ?_); (case side1 => repeat (first | exact (Kd.C_below HR1.out HB.out) | (with_reducible refine Kd.C_alloc ?_ _) | (with_reducible refine Kd.C_drewN ?_ _) | (with_reducible refine Kd.C_drew ?_))); (case side2 => exact HC1.out); rintro e w14 ⟨v417, rfl, ho0, hb⟩; refine ⟨_, rfl, ?_⟩; have n0_ := Aside0.mk (Kd.R_elder' (by (with_reducible repeat (first | apply Kd.R_alloc | apply Kd.R_drewN | apply Kd.R_drew)); exact HO415.out) (Kd.R_base ho0) hb); have n1_ := Aside0.mk (Kd.R_lower (Kd.R_new' ho0 (Kd.R_lt (by (with_reducible repeat (first | apply Kd.R_alloc | apply Kd.R_drewN | apply Kd.R_drew)); exact HO415.out))) (below_size (by repeat (first | (with_reducible first | exact HB.out | apply below_alloc | apply pw_below_drewN | apply below_drew1) | exact HB.out)))); have n2_ := Aside0.mk (below_step (by repeat (first | (with_reducible first | exact HB.out | apply below_alloc | apply pw_below_drewN | apply below_drew1) | exact HB.out)) hb); clear HO415; clear HB; have HO415 := n0_; have HO418 := n1_; have HB := n2_; clear n0_ n1_ n2_; (try clear hb); (try clear hb2); (try clear hk); (try clear hi); (try clear ho0); obtain ⟨Ao15, co15, eo15⟩ := Kd.R_slice HO415.out; subst eo15) | ((with_reducible refine gate_callee (f := 40) rfl ?_); refine goesL_ (some 33) rfl rfl Tryd.func40 (by kernel_rfl) rfl #[.slice Ao15 t413.length co15] rfl (by (try simp only [List.map_toArray, List.map_cons, List.map_nil]); first | done | rfl | (simp only [List.length_drop, List.length_take]; rfl)) ?_; (with_reducible refine (frame_All.calls k _ _ t413 t419 t420 _ ?side1 ?side2 ?side3 A7.out).mono ?_); (case side1 => repeat (first | exact (Kd.R_reads' HO415.out).2.2 | (with_reducible refine Kd.C_alloc ?_ _) | (with_reducible refine Kd.C_drewN ?_ _) | (with_reducible refine Kd.C_drew ?_))); (case side2 => exact (Kd.R_reads' HO415.out).2.1); (case side3 => exact TabIn.below HTB.out (by repeat (first | (with_reducible first | exact HB.out | apply below_alloc | apply pw_below_drewN | apply below_drew1) | exact HB.out))); rintro e w16 ⟨rfl, hb⟩; refine ⟨_, rfl, ?_⟩; have n0_ := Aside0.mk (Kd.R_below (by (with_reducible repeat (first | apply Kd.R_alloc | apply Kd.R_drewN | apply Kd.R_drew)); exact HO415.out) hb); have n1_ := Aside0.mk (Kd.R_below (by (with_reducible repeat (first | apply Kd.R_alloc | apply Kd.R_drewN | apply Kd.R_drew)); exact HO418.out) hb); have n2_ := Aside0.mk (below_step (by repeat (first | (with_reducible first | exact HB.out | apply below_alloc | apply pw_below_drewN | apply below_drew1) | exact HB.out)) hb); clear HO415; clear HO418; clear HB; have HO415 := n0_; have HO418 := n1_; have HB := n2_; clear n0_ n1_ n2_; (try clear hb); (try clear hb2); (try clear hk); (try clear hi); obtain ⟨Ao17, co17, eo17⟩ := Kd.R_slice HO418.out; subst eo17) | ((with_reducible refine gate_callee (f := 40) rfl ?_); refine goesL_ (some 38) rfl rfl Tryd.func40 (by kernel_rfl) rfl #[.slice Ao17 t416.length co17] rfl (by (try simp only [List.map_toArray, List.map_cons, List.map_nil]); first | done | rfl | (simp only [List.length_drop, List.length_take]; rfl)) ?_; (with_reducible refine (frame_All.calls k _ _ t416 t421 t422 _ ?side1 ?side2 ?side3 A8.out).mono ?_); (case side1 => repeat (first | exact (Kd.R_reads' HO418.out).2.2 | (with_reducible refine Kd.C_alloc ?_ _) | (with_reducible refine Kd.C_drewN ?_ _) | (with_reducible refine Kd.C_drew ?_))); (case side2 => exact (Kd.R_reads' HO418.out).2.1); (case side3 => exact TabIn.below HTB.out (by repeat (first | (with_reducible first | exact HB.out | apply below_alloc | apply pw_below_drewN | apply below_drew1) | exact HB.out))); rintro e w18 ⟨rfl, hb⟩; refine ⟨_, rfl, ?_⟩; have n0_ := Aside0.mk (Kd.R_below (by (with_reducible repeat (first | apply Kd.R_alloc | apply Kd.R_drewN | apply Kd.R_drew)); exact HO415.out) hb); have n1_ := Aside0.mk (Kd.R_below (by (with_reducible repeat (first | apply Kd.R_alloc | apply Kd.R_drewN | apply Kd.R_drew)); exact HO418.out) hb); have n2_ := Aside0.mk (below_step (by repeat (first | (with_reducible first | exact HB.out | apply below_alloc | apply pw_below_drewN | apply below_drew1) | exact HB.out)) hb); clear HO415; clear HO418; clear HB; have HO415 := n0_; have HO418 := n1_; have HB := n2_; clear n0_ n1_ n2_; (try clear hb); (try clear hb2); (try clear hk); (try clear hi)) | ((with_reducible refine gate_callee (f := 42) rfl ?_); refine goesL_ (some 45) rfl rfl Tryd.func42 (by kernel_rfl) rfl #[.string (t419 ++ t421)] rfl (by (try simp only [List.map_toArray, List.map_cons, List.map_nil]); first | done | rfl | (simp only [List.length_drop, List.length_take]; rfl)) ?_; (with_reducible refine (frame_Scan.calls k (t419 ++ t421) t423 t424 t425 _ ?side1 A10.out).mono ?_); (case side1 => exact TabIn.below HTB.out (by repeat (first | (with_reducible first | exact HB.out | apply below_alloc | apply pw_below_drewN | apply below_drew1) | exact HB.out))); rintro e w19 ⟨v426, rfl, ho0, hb⟩; refine ⟨_, rfl, ?_⟩; have n0_ := Aside0.mk (Kd.R_elder' (by (with_reducible repeat (first | apply Kd.R_alloc | apply Kd.R_drewN | apply Kd.R_drew)); exact HO415.out) (Kd.R_base ho0) hb); have n1_ := Aside0.mk (Kd.R_elder' (by (with_reducible repeat (first | apply Kd.R_alloc | apply Kd.R_drewN | apply Kd.R_drew)); exact HO418.out) (Kd.R_base ho0) hb); have n2_ := Aside0.mk (Kd.R_lower (Kd.R_new' (Kd.R_new' ho0 (Kd.R_lt (by (with_reducible repeat (first | apply Kd.R_alloc | apply Kd.R_drewN | apply Kd.R_drew)); exact HO415.out))) (Kd.R_lt (by (with_reducible repeat (first | apply Kd.R_alloc | apply Kd.R_drewN | apply Kd.R_drew)); exact HO418.out))) (below_size (by repeat (first | (with_reducible first | exact HB.out | apply below_alloc | apply pw_below_drewN | apply below_drew1) | exact HB.out)))); have n3_ := Aside0.mk (below_step (by repeat (first | (with_reducible first | exact HB.out | apply below_alloc | apply pw_below_drewN | apply below_drew1) | exact HB.out)) hb); clear HO415; clear HO418; clear HB; have HO415 := n0_; have HO418 := n1_; have HO427 := n2_; have HB := n3_; clear n0_ n1_ n2_ n3_; (try clear hb); (try clear hb2); (try clear hk); (try clear hi); (try clear ho0)))
    (try simp only [Act.put, List.setIfInBounds_toArray, List.set_cons_zero, List.set_cons_succ])
    go_cut [77] (fun v77 wc => ∃ (kq : Nat) (x77_10 : Bool), v77 = .bool x77_10 ∧ Aside0 (heliographlaw05_FrameJoins.j0 kq a2 t412 t413 t416 t419 t423 x77_10 = some true) ∧ Aside0 (kq ≤ k) ∧ Aside0 (Kd.R Kd.string 9 wc w.heap.size (fun k_ => some k_ ≠ ((.slice Ao17 t416.length co17) : Value).ownBlock ∧ some k_ ≠ (v426 : Value).ownBlock) (.slice Ao15 t413.length co15) t413) ∧ Aside0 (Kd.R Kd.string 9 wc w.heap.size (fun k_ => some k_ ≠ ((.slice Ao15 t413.length co15) : Value).ownBlock ∧ some k_ ≠ (v426 : Value).ownBlock) (.slice Ao17 t416.length co17) t416) ∧ Aside0 (Kd.R Kd.string 9 wc w.heap.size (fun k_ => some k_ ≠ ((.slice Ao15 t413.length co15) : Value).ownBlock ∧ some k_ ≠ ((.slice Ao17 t416.length co17) : Value).ownBlock) v426 t423) ∧ Aside0 (Below w.heap.size w wc))
    case first =>
      have H := HC11.out
      clear HC11
      by_cases c20 : t420 = 0
      · rw [if_pos c20] at H
        have c20b0 : (t420 == 0) = true := beq_iff_eq.mpr c20
        have c20b1 : (t420 != 0) = false := bne_eq_false_iff_eq.mpr c20
        clear c20
        (first | rw [c20b0] | (simp only [i64_w, i32_w]; rw [c20b0]) | skip)
        by_cases c21 : t422 = 0
        · rw [if_pos c21] at H
          have c21b0 : (t422 == 0) = true := beq_iff_eq.mpr c21
          have c21b1 : (t422 != 0) = false := bne_eq_false_iff_eq.mpr c21
          clear c21
          by_cases c22 : t425 = 1
          · rw [if_pos c22] at H
            have c22b0 : (t425 == 1) = true := beq_iff_eq.mpr c22
            have c22b1 : (t425 != 1) = false := bne_eq_false_iff_eq.mpr c22
            clear c22
            by_cases c23 : t424 = ((t419.size : Int) + (t421.size : Int))
            · rw [if_pos c23] at H
              have c23b0 : (t424 == ((t419.size : Int) + (t421.size : Int))) = true := beq_iff_eq.mpr c23
              have c23b1 : (t424 != ((t419.size : Int) + (t421.size : Int))) = false := bne_eq_false_iff_eq.mpr c23
              clear c23
              have H' := Aside0.mk H
              clear H
              obtain ⟨Ao24, co24, eo24⟩ := Kd.R_slice HO427.out
              subst eo24
              go_wp2
              go_meet
              case rel => exact ⟨_, (((t423.length : Int) != (wrap64 ((t413.length : Int) + (t416.length : Int))))), (by first | rfl | (simp; done) | (simp [*]; done)), H', ⟨by first | omega | exact Nat.le_refl _⟩, ⟨by (with_reducible repeat (first | apply Kd.R_alloc | apply Kd.R_drewN | apply Kd.R_drew)); exact Kd.R_mono HO415.out (fun _ hk => ⟨hk.1.2, hk.2⟩)⟩, ⟨by (with_reducible repeat (first | apply Kd.R_alloc | apply Kd.R_drewN | apply Kd.R_drew)); exact Kd.R_mono HO418.out (fun _ hk => ⟨hk.1.2, hk.2⟩)⟩, ⟨by (with_reducible repeat (first | apply Kd.R_alloc | apply Kd.R_drewN | apply Kd.R_drew)); exact Kd.R_mono HO427.out (fun _ hk => ⟨hk.1.2, hk.2⟩)⟩, ⟨by repeat (first | (with_reducible first | exact HB.out | apply below_alloc | apply pw_below_drewN | apply below_drew1) | exact HB.out)⟩⟩
            · rw [if_neg c23] at H
              exact (heliographlaw05_FrameJoins.j0_true H).elim
          · rw [if_neg c22] at H
            exact (heliographlaw05_FrameJoins.j0_true H).elim
        · rw [if_neg c21] at H
          exact (heliographlaw05_FrameJoins.j0_true H).elim
      · rw [if_neg c20] at H
        exact (heliographlaw05_FrameJoins.j0_true H).elim
    case rest =>
      clear HC11
      try clear c1
      try clear c2
      try clear p2
      try clear c3
      try clear c4
      try clear p6
      try clear c9
      try clear c9b0
      try clear c9b1
      try clear c9b2
      try clear c14
      try clear c20
      try clear c20b0
      try clear c20b1
      try clear c21
      try clear c21b0
      try clear c21b1
      try clear c22
      try clear c22b0
      try clear c22b1
      try clear c23
      try clear c23b0
      try clear c23b1
      try clear c24
      obtain ⟨kq, x77_10, rfl, HA, HJ10, HO_8, HO_9, HO_14, HB⟩ := hcut
      cases kq with
      | zero => exact absurd HA.out (by simp [heliographlaw05_FrameJoins.j0])
      | succ kj10 =>
        have H := HA.out
        clear HA
        simp only [heliographlaw05_FrameJoins.j0] at H
        by_cases c25 : x77_10 = true
        · subst c25
          have H1 : (some false) = some true := by rw [if_pos rfl] at H; exact H
          clear H
          exact absurd H1 (by simp)
        · replace c25 := Bool.eq_false_iff.mpr c25
          subst c25
          have H1 : (if 0 ≤ (t413.length : Int) then (if (t413.length : Int) ≤ (t423.length : Int) then ((heliographlaw05_same.f kj10 (t423.take ((t413.length : Int) : Int).toNat) t413).bind fun t432 => ((heliographlaw05_same.f kj10 (t423.drop ((t413.length : Int) : Int).toNat) t416).bind fun t437 => ((heliographlaw05_short.f a2 100).bind fun t438 => ((frame_Scan.f kj10 t438).bind fun bt439 => (if t419.size + t438.size ≤ 9223372036854775807 then ((frame_Scan.f kj10 (t419 ++ t438)).bind fun bt444 => (if (bt444.1.length : Int) = (wrap64 ((t413.length : Int) + (bt439.1.length : Int))) then (if (t413.length : Int) ≤ (bt444.1.length : Int) then ((heliographlaw05_same.f kj10 (bt444.1.drop ((t413.length : Int) : Int).toNat) bt439.1).bind fun t453 => (if t412 = true then (if t432 = true then (if t437 = true then (if t453 = true then (if bt444.2.1 = (wrap64 ((t419.size : Int) + bt439.2.1)) then (some (bt444.2.2 == bt439.2.2)) else (some false)) else (some false)) else (some false)) else (some false)) else (some false))) else (none)) else (some false))) else (none)))))) else (none)) else (none)) = some true := by rw [if_neg (show ¬ (false = true) by decide)] at H; exact H
          clear H
          have H := H1
          clear H1
          by_cases c26 : 0 ≤ (t413.length : Int)
          · rw [if_pos c26] at H
            have c26b0 := eq_true c26
            have c26b1 : decide (0 ≤ (t413.length : Int)) = true := decide_eq_true c26
            clear c26
            by_cases c27 : (t413.length : Int) ≤ (t423.length : Int)
            · rw [if_pos c27] at H
              have c27b0 := eq_true c27
              have c27b1 : decide ((t413.length : Int) ≤ (t423.length : Int)) = true := decide_eq_true c27
              clear c27
              obtain ⟨y428, hy428⟩ : ∃ y_ : List ByteArray, y_ = (t423.take ((t413.length : Int) : Int).toNat) := ⟨_, rfl⟩
              replace H : ((heliographlaw05_same.f kj10 y428 t413).bind fun t432 => ((heliographlaw05_same.f kj10 (t423.drop ((t413.length : Int) : Int).toNat) t416).bind fun t437 => ((heliographlaw05_short.f a2 100).bind fun t438 => ((frame_Scan.f kj10 t438).bind fun bt439 => (if t419.size + t438.size ≤ 9223372036854775807 then ((frame_Scan.f kj10 (t419 ++ t438)).bind fun bt444 => (if (bt444.1.length : Int) = (wrap64 ((t413.length : Int) + (bt439.1.length : Int))) then (if (t413.length : Int) ≤ (bt444.1.length : Int) then ((heliographlaw05_same.f kj10 (bt444.1.drop ((t413.length : Int) : Int).toNat) bt439.1).bind fun t453 => (if t412 = true then (if t432 = true then (if t437 = true then (if t453 = true then (if bt444.2.1 = (wrap64 ((t419.size : Int) + bt439.2.1)) then (some (bt444.2.2 == bt439.2.2)) else (some false)) else (some false)) else (some false)) else (some false)) else (some false))) else (none)) else (some false))) else (none)))))) = some true := by first | (rw [hy428]; with_reducible exact H) | (have H2_ := (Option.bind_some _ _).symm.trans H; rw [hy428]; with_reducible exact H2_) | (have H2_ := (Option.bind_some _ _).symm.trans H; with_reducible exact H2_) | with_reducible exact H | (rw [hy428]; exact H) | exact H
              have Ny428 := Aside0.mk hy428
              clear hy428
              replace H := Option.bind_eq_some_iff.mp H
              obtain ⟨t432, A280, H⟩ := H
              replace H : ((heliographlaw05_same.f kj10 (t423.drop ((t413.length : Int) : Int).toNat) t416).bind fun t437 => ((heliographlaw05_short.f a2 100).bind fun t438 => ((frame_Scan.f kj10 t438).bind fun bt439 => (if t419.size + t438.size ≤ 9223372036854775807 then ((frame_Scan.f kj10 (t419 ++ t438)).bind fun bt444 => (if (bt444.1.length : Int) = (wrap64 ((t413.length : Int) + (bt439.1.length : Int))) then (if (t413.length : Int) ≤ (bt444.1.length : Int) then ((heliographlaw05_same.f kj10 (bt444.1.drop ((t413.length : Int) : Int).toNat) bt439.1).bind fun t453 => (if t412 = true then (if t432 = true then (if t437 = true then (if t453 = true then (if bt444.2.1 = (wrap64 ((t419.size : Int) + bt439.2.1)) then (some (bt444.2.2 == bt439.2.2)) else (some false)) else (some false)) else (some false)) else (some false)) else (some false))) else (none)) else (some false))) else (none))))) = some true := H
              have A28 := Aside0.mk A280
              clear A280
              have c29b0 := eq_true (of_decide_eq_true (by first | (with_reducible assumption) | assumption) : 0 ≤ (t413.length : Int))
              have c30b0 := eq_true (of_decide_eq_true (by first | (with_reducible assumption) | assumption) : (t413.length : Int) ≤ (t423.length : Int))
              obtain ⟨y433, hy433⟩ : ∃ y_ : List ByteArray, y_ = (t423.drop ((t413.length : Int) : Int).toNat) := ⟨_, rfl⟩
              replace H : ((heliographlaw05_same.f kj10 y433 t416).bind fun t437 => ((heliographlaw05_short.f a2 100).bind fun t438 => ((frame_Scan.f kj10 t438).bind fun bt439 => (if t419.size + t438.size ≤ 9223372036854775807 then ((frame_Scan.f kj10 (t419 ++ t438)).bind fun bt444 => (if (bt444.1.length : Int) = (wrap64 ((t413.length : Int) + (bt439.1.length : Int))) then (if (t413.length : Int) ≤ (bt444.1.length : Int) then ((heliographlaw05_same.f kj10 (bt444.1.drop ((t413.length : Int) : Int).toNat) bt439.1).bind fun t453 => (if t412 = true then (if t432 = true then (if t437 = true then (if t453 = true then (if bt444.2.1 = (wrap64 ((t419.size : Int) + bt439.2.1)) then (some (bt444.2.2 == bt439.2.2)) else (some false)) else (some false)) else (some false)) else (some false)) else (some false))) else (none)) else (some false))) else (none))))) = some true := by first | (rw [hy433]; with_reducible exact H) | (have H2_ := (Option.bind_some _ _).symm.trans H; rw [hy433]; with_reducible exact H2_) | (have H2_ := (Option.bind_some _ _).symm.trans H; with_reducible exact H2_) | with_reducible exact H | (rw [hy433]; exact H) | exact H
              have Ny433 := Aside0.mk hy433
              clear hy433
              replace H := Option.bind_eq_some_iff.mp H
              obtain ⟨t437, A310, H⟩ := H
              replace H : ((heliographlaw05_short.f a2 100).bind fun t438 => ((frame_Scan.f kj10 t438).bind fun bt439 => (if t419.size + t438.size ≤ 9223372036854775807 then ((frame_Scan.f kj10 (t419 ++ t438)).bind fun bt444 => (if (bt444.1.length : Int) = (wrap64 ((t413.length : Int) + (bt439.1.length : Int))) then (if (t413.length : Int) ≤ (bt444.1.length : Int) then ((heliographlaw05_same.f kj10 (bt444.1.drop ((t413.length : Int) : Int).toNat) bt439.1).bind fun t453 => (if t412 = true then (if t432 = true then (if t437 = true then (if t453 = true then (if bt444.2.1 = (wrap64 ((t419.size : Int) + bt439.2.1)) then (some (bt444.2.2 == bt439.2.2)) else (some false)) else (some false)) else (some false)) else (some false)) else (some false))) else (none)) else (some false))) else (none)))) = some true := H
              have A31 := Aside0.mk A310
              clear A310
              replace H := Option.bind_eq_some_iff.mp H
              obtain ⟨t438, A320, H⟩ := H
              replace H : ((frame_Scan.f kj10 t438).bind fun bt439 => (if t419.size + t438.size ≤ 9223372036854775807 then ((frame_Scan.f kj10 (t419 ++ t438)).bind fun bt444 => (if (bt444.1.length : Int) = (wrap64 ((t413.length : Int) + (bt439.1.length : Int))) then (if (t413.length : Int) ≤ (bt444.1.length : Int) then ((heliographlaw05_same.f kj10 (bt444.1.drop ((t413.length : Int) : Int).toNat) bt439.1).bind fun t453 => (if t412 = true then (if t432 = true then (if t437 = true then (if t453 = true then (if bt444.2.1 = (wrap64 ((t419.size : Int) + bt439.2.1)) then (some (bt444.2.2 == bt439.2.2)) else (some false)) else (some false)) else (some false)) else (some false)) else (some false))) else (none)) else (some false))) else (none))) = some true := H
              have A32 := Aside0.mk A320
              clear A320
              replace H := Option.bind_eq_some_iff.mp H
              obtain ⟨⟨t439, t440, t441⟩, A330, H⟩ := H
              replace H : (if t419.size + t438.size ≤ 9223372036854775807 then ((frame_Scan.f kj10 (t419 ++ t438)).bind fun bt444 => (if (bt444.1.length : Int) = (wrap64 ((t413.length : Int) + (t439.length : Int))) then (if (t413.length : Int) ≤ (bt444.1.length : Int) then ((heliographlaw05_same.f kj10 (bt444.1.drop ((t413.length : Int) : Int).toNat) t439).bind fun t453 => (if t412 = true then (if t432 = true then (if t437 = true then (if t453 = true then (if bt444.2.1 = (wrap64 ((t419.size : Int) + t440)) then (some (bt444.2.2 == t441)) else (some false)) else (some false)) else (some false)) else (some false)) else (some false))) else (none)) else (some false))) else (none)) = some true := H
              have A33 := Aside0.mk A330
              clear A330
              by_cases c34 : t419.size + t438.size ≤ 9223372036854775807
              · rw [if_pos c34] at H
                have c34b0 := eq_true c34
                have c34b1 : decide (t419.size + t438.size ≤ 9223372036854775807) = true := decide_eq_true c34
                try have c34b2 : (9223372036854775807 < t419.size + t438.size) = False := eq_false (Nat.not_lt.2 c34)
                replace H := Option.bind_eq_some_iff.mp H
                obtain ⟨⟨t444, t445, t446⟩, A350, H⟩ := H
                replace H : (if (t444.length : Int) = (wrap64 ((t413.length : Int) + (t439.length : Int))) then (if (t413.length : Int) ≤ (t444.length : Int) then ((heliographlaw05_same.f kj10 (t444.drop ((t413.length : Int) : Int).toNat) t439).bind fun t453 => (if t412 = true then (if t432 = true then (if t437 = true then (if t453 = true then (if t445 = (wrap64 ((t419.size : Int) + t440)) then (some (t446 == t441)) else (some false)) else (some false)) else (some false)) else (some false)) else (some false))) else (none)) else (some false)) = some true := H
                have A35 := Aside0.mk A350
                clear A350
                by_cases c36 : (t444.length : Int) = (wrap64 ((t413.length : Int) + (t439.length : Int)))
                · rw [if_pos c36] at H
                  have c36b0 : ((t444.length : Int) == (wrap64 ((t413.length : Int) + (t439.length : Int)))) = true := beq_iff_eq.mpr c36
                  have c36b1 : ((t444.length : Int) != (wrap64 ((t413.length : Int) + (t439.length : Int)))) = false := bne_eq_false_iff_eq.mpr c36
                  clear c36
                  have c37b0 := eq_true (of_decide_eq_true (by first | (with_reducible assumption) | assumption) : 0 ≤ (t413.length : Int))
                  by_cases c38 : (t413.length : Int) ≤ (t444.length : Int)
                  · rw [if_pos c38] at H
                    have c38b0 := eq_true c38
                    have c38b1 : decide ((t413.length : Int) ≤ (t444.length : Int)) = true := decide_eq_true c38
                    clear c38
                    obtain ⟨y449, hy449⟩ : ∃ y_ : List ByteArray, y_ = (t444.drop ((t413.length : Int) : Int).toNat) := ⟨_, rfl⟩
                    replace H : ((heliographlaw05_same.f kj10 y449 t439).bind fun t453 => (if t412 = true then (if t432 = true then (if t437 = true then (if t453 = true then (if t445 = (wrap64 ((t419.size : Int) + t440)) then (some (t446 == t441)) else (some false)) else (some false)) else (some false)) else (some false)) else (some false))) = some true := by first | (rw [hy449]; with_reducible exact H) | (have H2_ := (Option.bind_some _ _).symm.trans H; rw [hy449]; with_reducible exact H2_) | (have H2_ := (Option.bind_some _ _).symm.trans H; with_reducible exact H2_) | with_reducible exact H | (rw [hy449]; exact H) | exact H
                    have Ny449 := Aside0.mk hy449
                    clear hy449
                    replace H := Option.bind_eq_some_iff.mp H
                    obtain ⟨t453, A390, H⟩ := H
                    replace H : (if t412 = true then (if t432 = true then (if t437 = true then (if t453 = true then (if t445 = (wrap64 ((t419.size : Int) + t440)) then (some (t446 == t441)) else (some false)) else (some false)) else (some false)) else (some false)) else (some false)) = some true := H
                    have A39 := Aside0.mk A390
                    clear A390
                    by_cases c40 : t412 = true
                    · subst c40
                      have H1 : (if t432 = true then (if t437 = true then (if t453 = true then (if t445 = (wrap64 ((t419.size : Int) + t440)) then (some (t446 == t441)) else (some false)) else (some false)) else (some false)) else (some false)) = some true := by rw [if_pos rfl] at H; exact H
                      clear H
                      have H := H1
                      clear H1
                      by_cases c41 : t432 = true
                      · subst c41
                        have H1 : (if t437 = true then (if t453 = true then (if t445 = (wrap64 ((t419.size : Int) + t440)) then (some (t446 == t441)) else (some false)) else (some false)) else (some false)) = some true := by rw [if_pos rfl] at H; exact H
                        clear H
                        have H := H1
                        clear H1
                        by_cases c42 : t437 = true
                        · subst c42
                          have H1 : (if t453 = true then (if t445 = (wrap64 ((t419.size : Int) + t440)) then (some (t446 == t441)) else (some false)) else (some false)) = some true := by rw [if_pos rfl] at H; exact H
                          clear H
                          have H := H1
                          clear H1
                          by_cases c43 : t453 = true
                          · subst c43
                            have H1 : (if t445 = (wrap64 ((t419.size : Int) + t440)) then (some (t446 == t441)) else (some false)) = some true := by rw [if_pos rfl] at H; exact H
                            clear H
                            have H := H1
                            clear H1
                            by_cases c44 : t445 = (wrap64 ((t419.size : Int) + t440))
                            · rw [if_pos c44] at H
                              have c44b0 : (t445 == (wrap64 ((t419.size : Int) + t440))) = true := beq_iff_eq.mpr c44
                              have c44b1 : (t445 != (wrap64 ((t419.size : Int) + t440))) = false := bne_eq_false_iff_eq.mpr c44
                              clear c44
                              have hrv := Option.some.inj H
                              obtain ⟨Ao46, co46, eo46⟩ := Kd.R_slice HO_14.out
                              subst eo46
                              have q45 : ((t413.length : Int) : Int) ≤ ((t423.length : Int) : Int) := of_decide_eq_true (by first | (with_reducible assumption) | assumption)
                              obtain ⟨i045, hi045, _, hsz45, _⟩ := info_parts info9
                              have hroom45 : t423.length ≤ co46 := (Kd.R_reads' HO_14.out).2.1
                              have hC45 : Kd.C Kd.string _ Ao46 t423.length t423 := (Kd.R_reads' HO_14.out).2.2
                              have hcut45 := cut_to (P := Tryd.prog) 36 9 .i64 Tryd.underlying36 hi045 Ao46 t423.length co46 (t413.length : Int) (of_decide_eq_true (by first | (with_reducible assumption) | assumption)) q45 hroom45
                              have hr45 := Kd.C_take (m := ((t413.length : Int) : Int).toNat) hC45 (by omega)
                              have hy45 : y428.length = ((t413.length : Int) : Int).toNat := (by rw [Ny428.out, List.length_take]; omega)
                              rw [← Ny428.out] at hr45
                              rw [← hy45] at hcut45
                              have HR431 := Aside0.mk hr45
                              have HC431 := Aside0.mk (show y428.length ≤ co46 from by omega)
                              clear hr45 hC45 hroom45 hi045 hsz45
                              have KY45 := Aside0.mk hy45
                              clear hy45
                              have KL45 := Aside0.mk (show ((t413.length : Int) : Int).toNat ≤ t423.length from by omega)
                              replace q45 := eq_true q45
                              go_wp2_with (first | ((with_reducible refine gate_callee (f := 44) rfl ?_); refine goesL_ (some 83) rfl rfl Tryd.func44 (by kernel_rfl) rfl #[.slice Ao46 y428.length co46, .slice Ao15 t413.length co15] rfl (by (try simp only [List.map_toArray, List.map_cons, List.map_nil]); first | done | rfl | (simp only [List.length_drop, List.length_take]; rfl)) ?_; (with_reducible refine (heliographlaw05_same.calls kj10 _ _ y428 _ _ t413 true _ ?side1 ?side2 ?side3 ?side4 A28.out).mono ?_); (case side1 => repeat (first | exact (by repeat (first | (with_reducible exact HR431.out) | (with_reducible refine Kd.C_alloc ?_ _) | (with_reducible refine Kd.C_drewN ?_ _) | (with_reducible refine Kd.C_drew ?_) | exact HR431.out)) | (with_reducible refine Kd.C_alloc ?_ _) | (with_reducible refine Kd.C_drewN ?_ _) | (with_reducible refine Kd.C_drew ?_))); (case side2 => exact HC431.out); (case side3 => repeat (first | exact (Kd.R_reads' HO_8.out).2.2 | (with_reducible refine Kd.C_alloc ?_ _) | (with_reducible refine Kd.C_drewN ?_ _) | (with_reducible refine Kd.C_drew ?_))); (case side4 => exact (Kd.R_reads' HO_8.out).2.1); rintro e w' ⟨rfl, ⟨nd, rfl⟩⟩; refine ⟨_, rfl, ?_⟩; have q47 : ((t413.length : Int) : Int) ≤ ((t423.length : Int) : Int) := of_decide_eq_true (by first | (with_reducible assumption) | assumption); obtain ⟨i047, hi047, _, hsz47, _⟩ := info_parts info9; have hroom47 : t423.length ≤ co46 := (Kd.R_reads' HO_14.out).2.1; have hC47 : Kd.C Kd.string _ Ao46 t423.length t423 := (Kd.R_reads' HO_14.out).2.2; have q047 : (0 : Int) ≤ ((t413.length : Int) : Int) := of_decide_eq_true (by first | (with_reducible assumption) | assumption); have hcut47 := cut_from (P := Tryd.prog) 36 9 .i64 Tryd.underlying36 hi047 1 hsz47 Ao46 t423.length co46 (t413.length : Int) q047 q47; have hr47 := Kd.C_drop (m := ((t413.length : Int) : Int).toNat) (c := co46) hC47 (by omega) hroom47; obtain ⟨A47, hA47⟩ : ∃ A1, A1 = (if co46 = ((t413.length : Int) : Int).toNat then Ao46 else (Ao46 : Option Addr).map (·.add (((t413.length : Int) : Int).toNat * 1))) := ⟨_, rfl⟩; obtain ⟨c47, hc47⟩ : ∃ c1, c1 = co46 - ((t413.length : Int) : Int).toNat := ⟨_, rfl⟩; have hy47 : y433.length = t423.length - ((t413.length : Int) : Int).toNat := (by rw [Ny433.out, List.length_drop] <;> omega); rw [show (t423).drop ((t413.length : Int) : Int).toNat = y433 from Ny433.out.symm] at hr47; replace hr47 : Kd.C Kd.string _ A47 y433.length y433 := (by rw [hA47]; exact hr47); rw [← hy47, ← hA47, ← hc47] at hcut47; have HR436 := Aside0.mk hr47; have HC436 := Aside0.mk (show y433.length ≤ c47 from by rw [hy47, hc47]; exact Nat.sub_le_sub_right hroom47 _); clear hr47 hC47 hroom47 hi047 hsz47 hc47; have KY47 := Aside0.mk hy47; have KA47 := Aside0.mk hA47; clear hy47 hA47; have KL47 := Aside0.mk (show ((t413.length : Int) : Int).toNat ≤ t423.length from by omega); replace q47 := eq_true q47) | ((with_reducible refine gate_callee (f := 44) rfl ?_); refine goesL_ (some 89) rfl rfl Tryd.func44 (by kernel_rfl) rfl #[.slice A47 y433.length c47, .slice Ao17 t416.length co17] rfl (by (try simp only [List.map_toArray, List.map_cons, List.map_nil]); first | done | rfl | (simp only [List.length_drop, List.length_take]; rfl)) ?_; (with_reducible refine (heliographlaw05_same.calls kj10 _ _ y433 _ _ t416 true _ ?side1 ?side2 ?side3 ?side4 A31.out).mono ?_); (case side1 => repeat (first | exact (by repeat (first | (with_reducible exact HR436.out) | (with_reducible refine Kd.C_alloc ?_ _) | (with_reducible refine Kd.C_drewN ?_ _) | (with_reducible refine Kd.C_drew ?_) | exact HR436.out)) | (with_reducible refine Kd.C_alloc ?_ _) | (with_reducible refine Kd.C_drewN ?_ _) | (with_reducible refine Kd.C_drew ?_))); (case side2 => exact HC436.out); (case side3 => repeat (first | exact (Kd.R_reads' HO_9.out).2.2 | (with_reducible refine Kd.C_alloc ?_ _) | (with_reducible refine Kd.C_drewN ?_ _) | (with_reducible refine Kd.C_drew ?_))); (case side4 => exact (Kd.R_reads' HO_9.out).2.1); rintro e w' ⟨rfl, ⟨nd, rfl⟩⟩; refine ⟨_, rfl, ?_⟩) | ((with_reducible refine gate_callee (f := 26) rfl ?_); refine goesL_ (some 91) rfl rfl Tryd.func26 (by kernel_rfl) rfl #[.string a2, .int .i64 100] rfl (by (try simp only [List.map_toArray, List.map_cons, List.map_nil]); first | done | rfl | (simp only [List.length_drop, List.length_take]; rfl)) ?_; (with_reducible refine (heliographlaw05_short.calls a2 100 t438 _ A32.out).mono ?_); rintro e w' ⟨rfl, ⟨nd, rfl⟩⟩; refine ⟨_, rfl, ?_⟩) | ((with_reducible refine gate_callee (f := 42) rfl ?_); refine goesL_ (some 94) rfl rfl Tryd.func42 (by kernel_rfl) rfl #[.string t438] rfl (by (try simp only [List.map_toArray, List.map_cons, List.map_nil]); first | done | rfl | (simp only [List.length_drop, List.length_take]; rfl)) ?_; (with_reducible refine (frame_Scan.calls kj10 t438 t439 t440 t441 _ ?side1 A33.out).mono ?_); (case side1 => exact TabIn.below HTB.out (by repeat (first | (with_reducible first | exact HB.out | apply below_alloc | apply pw_below_drewN | apply below_drew1) | exact HB.out))); rintro e w48 ⟨v442, rfl, ho0, hb⟩; refine ⟨_, rfl, ?_⟩; have n0_ := Aside0.mk (Kd.R_elder' (by (with_reducible repeat (first | apply Kd.R_alloc | apply Kd.R_drewN | apply Kd.R_drew)); exact HO_8.out) (Kd.R_base ho0) hb); have n1_ := Aside0.mk (Kd.R_elder' (by (with_reducible repeat (first | apply Kd.R_alloc | apply Kd.R_drewN | apply Kd.R_drew)); exact HO_9.out) (Kd.R_base ho0) hb); have n2_ := Aside0.mk (Kd.R_elder' (by (with_reducible repeat (first | apply Kd.R_alloc | apply Kd.R_drewN | apply Kd.R_drew)); exact HO_14.out) (Kd.R_base ho0) hb); have n3_ := Aside0.mk (Kd.R_lower (Kd.R_new' (Kd.R_new' (Kd.R_new' ho0 (Kd.R_lt (by (with_reducible repeat (first | apply Kd.R_alloc | apply Kd.R_drewN | apply Kd.R_drew)); exact HO_8.out))) (Kd.R_lt (by (with_reducible repeat (first | apply Kd.R_alloc | apply Kd.R_drewN | apply Kd.R_drew)); exact HO_9.out))) (Kd.R_lt (by (with_reducible repeat (first | apply Kd.R_alloc | apply Kd.R_drewN | apply Kd.R_drew)); exact HO_14.out))) (below_size (by repeat (first | (with_reducible first | exact HB.out | apply below_alloc | apply pw_below_drewN | apply below_drew1) | exact HB.out)))); have n4_ := Aside0.mk (Kd.C_below (by repeat (first | (with_reducible exact HR431.out) | (with_reducible refine Kd.C_alloc ?_ _) | (with_reducible refine Kd.C_drewN ?_ _) | (with_reducible refine Kd.C_drew ?_) | exact HR431.out)) hb); have n5_ := Aside0.mk (Kd.C_below (by repeat (first | (with_reducible exact HR436.out) | (with_reducible refine Kd.C_alloc ?_ _) | (with_reducible refine Kd.C_drewN ?_ _) | (with_reducible refine Kd.C_drew ?_) | exact HR436.out)) hb); have n6_ := Aside0.mk (below_step (by repeat (first | (with_reducible first | exact HB.out | apply below_alloc | apply pw_below_drewN | apply below_drew1) | exact HB.out)) hb); clear HO_8; clear HO_9; clear HO_14; clear HR431; clear HR436; clear HB; have HO_8 := n0_; have HO_9 := n1_; have HO_14 := n2_; have HO443 := n3_; have HR431 := n4_; have HR436 := n5_; have HB := n6_; clear n0_ n1_ n2_ n3_ n4_ n5_ n6_; (try clear hb); (try clear hb2); (try clear hk); (try clear hi); (try clear ho0)) | ((with_reducible refine gate_callee (f := 42) rfl ?_); refine goesL_ (some 102) rfl rfl Tryd.func42 (by kernel_rfl) rfl #[.string (t419 ++ t438)] rfl (by (try simp only [List.map_toArray, List.map_cons, List.map_nil]); first | done | rfl | (simp only [List.length_drop, List.length_take]; rfl)) ?_; (with_reducible refine (frame_Scan.calls kj10 (t419 ++ t438) t444 t445 t446 _ ?side1 A35.out).mono ?_); (case side1 => exact TabIn.below HTB.out (by repeat (first | (with_reducible first | exact HB.out | apply below_alloc | apply pw_below_drewN | apply below_drew1) | exact HB.out))); rintro e w49 ⟨v447, rfl, ho0, hb⟩; refine ⟨_, rfl, ?_⟩; have n0_ := Aside0.mk (Kd.R_elder' (by (with_reducible repeat (first | apply Kd.R_alloc | apply Kd.R_drewN | apply Kd.R_drew)); exact HO_8.out) (Kd.R_base ho0) hb); have n1_ := Aside0.mk (Kd.R_elder' (by (with_reducible repeat (first | apply Kd.R_alloc | apply Kd.R_drewN | apply Kd.R_drew)); exact HO_9.out) (Kd.R_base ho0) hb); have n2_ := Aside0.mk (Kd.R_elder' (by (with_reducible repeat (first | apply Kd.R_alloc | apply Kd.R_drewN | apply Kd.R_drew)); exact HO_14.out) (Kd.R_base ho0) hb); have n3_ := Aside0.mk (Kd.R_elder' (by (with_reducible repeat (first | apply Kd.R_alloc | apply Kd.R_drewN | apply Kd.R_drew)); exact HO443.out) (Kd.R_base ho0) hb); have n4_ := Aside0.mk (Kd.R_lower (Kd.R_new' (Kd.R_new' (Kd.R_new' (Kd.R_new' ho0 (Kd.R_lt (by (with_reducible repeat (first | apply Kd.R_alloc | apply Kd.R_drewN | apply Kd.R_drew)); exact HO_8.out))) (Kd.R_lt (by (with_reducible repeat (first | apply Kd.R_alloc | apply Kd.R_drewN | apply Kd.R_drew)); exact HO_9.out))) (Kd.R_lt (by (with_reducible repeat (first | apply Kd.R_alloc | apply Kd.R_drewN | apply Kd.R_drew)); exact HO_14.out))) (Kd.R_lt (by (with_reducible repeat (first | apply Kd.R_alloc | apply Kd.R_drewN | apply Kd.R_drew)); exact HO443.out))) (below_size (by repeat (first | (with_reducible first | exact HB.out | apply below_alloc | apply pw_below_drewN | apply below_drew1) | exact HB.out)))); have n5_ := Aside0.mk (Kd.C_below (by repeat (first | (with_reducible exact HR431.out) | (with_reducible refine Kd.C_alloc ?_ _) | (with_reducible refine Kd.C_drewN ?_ _) | (with_reducible refine Kd.C_drew ?_) | exact HR431.out)) hb); have n6_ := Aside0.mk (Kd.C_below (by repeat (first | (with_reducible exact HR436.out) | (with_reducible refine Kd.C_alloc ?_ _) | (with_reducible refine Kd.C_drewN ?_ _) | (with_reducible refine Kd.C_drew ?_) | exact HR436.out)) hb); have n7_ := Aside0.mk (below_step (by repeat (first | (with_reducible first | exact HB.out | apply below_alloc | apply pw_below_drewN | apply below_drew1) | exact HB.out)) hb); clear HO_8; clear HO_9; clear HO_14; clear HO443; clear HR431; clear HR436; clear HB; have HO_8 := n0_; have HO_9 := n1_; have HO_14 := n2_; have HO443 := n3_; have HO448 := n4_; have HR431 := n5_; have HR436 := n6_; have HB := n7_; clear n0_ n1_ n2_ n3_ n4_ n5_ n6_ n7_; (try clear hb); (try clear hb2); (try clear hk); (try clear hi); (try clear ho0); obtain ⟨Ao50, co50, eo50⟩ := Kd.R_slice HO448.out; subst eo50; obtain ⟨Ao51, co51, eo51⟩ := Kd.R_slice HO443.out; subst eo51; have q52 : ((t413.length : Int) : Int) ≤ ((t444.length : Int) : Int) := of_decide_eq_true (by first | (with_reducible assumption) | assumption); obtain ⟨i052, hi052, _, hsz52, _⟩ := info_parts info9; have hroom52 : t444.length ≤ co50 := (Kd.R_reads' HO448.out).2.1; have hC52 : Kd.C Kd.string _ Ao50 t444.length t444 := (Kd.R_reads' HO448.out).2.2; have q052 : (0 : Int) ≤ ((t413.length : Int) : Int) := of_decide_eq_true (by first | (with_reducible assumption) | assumption); have hcut52 := cut_from (P := Tryd.prog) 36 9 .i64 Tryd.underlying36 hi052 1 hsz52 Ao50 t444.length co50 (t413.length : Int) q052 q52; have hr52 := Kd.C_drop (m := ((t413.length : Int) : Int).toNat) (c := co50) hC52 (by omega) hroom52; obtain ⟨A52, hA52⟩ : ∃ A1, A1 = (if co50 = ((t413.length : Int) : Int).toNat then Ao50 else (Ao50 : Option Addr).map (·.add (((t413.length : Int) : Int).toNat * 1))) := ⟨_, rfl⟩; obtain ⟨c52, hc52⟩ : ∃ c1, c1 = co50 - ((t413.length : Int) : Int).toNat := ⟨_, rfl⟩; have hy52 : y449.length = t444.length - ((t413.length : Int) : Int).toNat := (by rw [Ny449.out, List.length_drop] <;> omega); rw [show (t444).drop ((t413.length : Int) : Int).toNat = y449 from Ny449.out.symm] at hr52; replace hr52 : Kd.C Kd.string _ A52 y449.length y449 := (by rw [hA52]; exact hr52); rw [← hy52, ← hA52, ← hc52] at hcut52; have HR452 := Aside0.mk hr52; have HC452 := Aside0.mk (show y449.length ≤ c52 from by rw [hy52, hc52]; exact Nat.sub_le_sub_right hroom52 _); clear hr52 hC52 hroom52 hi052 hsz52 hc52; have KY52 := Aside0.mk hy52; have KA52 := Aside0.mk hA52; clear hy52 hA52; have KL52 := Aside0.mk (show ((t413.length : Int) : Int).toNat ≤ t444.length from by omega); replace q52 := eq_true q52) | ((with_reducible refine gate_callee (f := 44) rfl ?_); refine goesL_ (some 119) rfl rfl Tryd.func44 (by kernel_rfl) rfl #[.slice A52 y449.length c52, .slice Ao51 t439.length co51] rfl (by (try simp only [List.map_toArray, List.map_cons, List.map_nil]); first | done | rfl | (simp only [List.length_drop, List.length_take]; rfl)) ?_; (with_reducible refine (heliographlaw05_same.calls kj10 _ _ y449 _ _ t439 true _ ?side1 ?side2 ?side3 ?side4 A39.out).mono ?_); (case side1 => repeat (first | exact (by repeat (first | (with_reducible exact HR452.out) | (with_reducible refine Kd.C_alloc ?_ _) | (with_reducible refine Kd.C_drewN ?_ _) | (with_reducible refine Kd.C_drew ?_) | exact HR452.out)) | (with_reducible refine Kd.C_alloc ?_ _) | (with_reducible refine Kd.C_drewN ?_ _) | (with_reducible refine Kd.C_drew ?_))); (case side2 => exact HC452.out); (case side3 => repeat (first | exact (Kd.R_reads' HO443.out).2.2 | (with_reducible refine Kd.C_alloc ?_ _) | (with_reducible refine Kd.C_drewN ?_ _) | (with_reducible refine Kd.C_drew ?_))); (case side4 => exact (Kd.R_reads' HO443.out).2.1); rintro e w' ⟨rfl, ⟨nd, rfl⟩⟩; refine ⟨_, rfl, ?_⟩))
                              go_ret
                              exact ⟨by first | rfl | (rw [hrv]; done) | (simp [errW_none, errW_some] <;> rfl) | (simp [*, errW_none, errW_some] <;> rfl), by repeat (first | (with_reducible first | exact HB.out | apply below_alloc | apply pw_below_drewN | apply below_drew1) | exact HB.out)⟩
                            · rw [if_neg c44] at H
                              exact absurd H (by simp)
                          · replace c43 := Bool.eq_false_iff.mpr c43
                            subst c43
                            have H1 : (some false) = some true := by rw [if_neg (show ¬ (false = true) by decide)] at H; exact H
                            clear H
                            exact absurd H1 (by simp)
                        · replace c42 := Bool.eq_false_iff.mpr c42
                          subst c42
                          have H1 : (some false) = some true := by rw [if_neg (show ¬ (false = true) by decide)] at H; exact H
                          clear H
                          exact absurd H1 (by simp)
                      · replace c41 := Bool.eq_false_iff.mpr c41
                        subst c41
                        have H1 : (some false) = some true := by rw [if_neg (show ¬ (false = true) by decide)] at H; exact H
                        clear H
                        exact absurd H1 (by simp)
                    · replace c40 := Bool.eq_false_iff.mpr c40
                      subst c40
                      have H1 : (some false) = some true := by rw [if_neg (show ¬ (false = true) by decide)] at H; exact H
                      clear H
                      exact absurd H1 (by simp)
                  · rw [if_neg c38] at H
                    exact absurd H (by simp)
                · rw [if_neg c36] at H
                  exact absurd H (by simp)
              · rw [if_neg c34] at H
                exact absurd H (by simp)
            · rw [if_neg c27] at H
              exact absurd H (by simp)
          · rw [if_neg c26] at H
            exact absurd H (by simp)
  · rw [if_neg c9] at H
    exact absurd H (by simp)

end Go.Proofs.YtbanbeaemmlikaaDoor.Px
