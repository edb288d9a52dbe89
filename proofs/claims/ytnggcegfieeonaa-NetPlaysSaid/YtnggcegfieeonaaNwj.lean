/- What is proved: that awake answers true. No condition. -/
import Derived.Test.YtnggcegfieeonaaNwi
namespace Go.Proofs.Ytnggcegfieeonaa.Nx
open Go.RowKit Go.Proofs.YtnggcegfieeonaaW.PrintWords Go.Proofs.YtnggcegfieeonaaW.PrintLast Go.Proofs.YtnggcegfieeonaaW.PrintMore
open Go.Proofs.Ytnggcegfieeonaa.PNetFull
set_option linter.unusedVariables false
set_option linter.unusedSimpArgs false
def a1 : Mail := ⟨1, 1, 2, ⟨#[97]⟩, 0⟩
def a2 : Mail := ⟨2, 2, 1, ⟨#[98]⟩, 0⟩
def a3 : Mail := ⟨3, 1, 2, ⟨#[99]⟩, 0⟩
def a4 : Mail := ⟨4, 1, 2, ⟨#[99]⟩, 0⟩
def N1 : Net := ⟨[a1], 1, 0, fun _ => false⟩
def N2 : Net := ⟨[a1, a2], 2, 0, fun _ => false⟩
def N3 : Net := (setF N2 1 2 true).2
def N5 : Net := ⟨[a1], 2, 0, fun _ => false⟩
def N6 : Net := ⟨[a1, a3], 3, 0, fun _ => false⟩
def N7 : Net := ⟨[a3], 3, 0, fun _ => false⟩
def N8 : Net := ⟨[a3, a4], 4, 0, fun _ => false⟩
theorem fs1 : sendF emptyNet 1 2 ⟨#[97]⟩ = (1, true, N1) := by kernel_rfl
theorem fs2 : sendF N1 2 1 ⟨#[98]⟩ = (2, true, N2) := by kernel_rfl
theorem fh : healF N3 = N2 := by kernel_rfl
theorem fr3 : readyI N3 N3.mail.length = [] := by kernel_rfl
theorem fr2 : readyI N2 N2.mail.length = [0, 1] := by kernel_rfl
theorem ft : takeF N2 1 = (a2, true, N5) := by kernel_rfl
theorem fs3 : sendF N5 1 2 ⟨#[99]⟩ = (3, true, N6) := by kernel_rfl
theorem fd : dropF N6 0 = (true, N7) := by kernel_rfl
theorem fb : doubleF N7 0 = (true, N8) := by kernel_rfl
theorem fl8 : N8.mail.length = 2 := rfl
theorem g2 : N2.Good := by
  intro m hm
  rcases List.mem_cons.1 hm with rfl | hm
  · exact ⟨by decide, by decide, by decide, by decide⟩
  · rw [List.mem_singleton.1 hm]; exact ⟨by decide, by decide, by decide, by decide⟩
theorem g3 : N3.Good := g2
theorem Kp.box {B : Nat} {w w' : World} {g gb : Nat} {v v' : Value} {o : Obj} (hk : Kp B w g v w' v') (hb : w.heap[gb]? = some o) (h1 : gb ≠ g) (h2 : v.ownBlock ≠ some gb) : w'.heap[gb]? = some o ∧ v'.ownBlock ≠ some gb := by
  refine ⟨hk.keep.blk hb h1 (Ne.symm h2), ?_⟩
  rcases hk.own with e | ⟨b, e, hle⟩
  · rw [e]; exact h2
  · rw [e]
    intro e2
    injection e2 with e2
    have := blk_lt hb
    omega
theorem NetAt.fresh {B : Nat} {w : World} {g : Nat} {v : Value} {S : Net} (h : NetAt B w g v S) {k : Nat} (hk : w.heap.size ≤ k) : k ≠ g ∧ v.ownBlock ≠ some k := by
  refine ⟨fun e => by have := h.lt; omega, fun e => ?_⟩
  have := (h.own_lt k e).2
  omega
set_option maxHeartbeats 16000000 in
set_option maxRecDepth 100000 in
theorem awake_calls (w : World) : Calls Try.prog 9 #[] w fun e w' => e = .returned (.bool true) ∧ Below w.heap.size w w' := by
  have hu29 := Try.underlying29
  have hz := zero29
  go_enter Try.func9, Try.ntmps9
  go_wp2_with (first
    | (go_at_call 10; (with_reducible refine (new_calls w.heap.size w (Nat.le_refl _)).mono ?_); rintro e w0 ⟨g, rfl, hn, hb, hg⟩; have HN0 := Aside0.mk hn; have HB0 := Aside0.mk hb; clear hn hb hg)
    | (go_at_call 11; (with_reducible refine (send_calls HN0.out 1 2 ⟨#[97]⟩).mono ?_); rintro e w1 hh; rw [fs1] at hh; dsimp only at hh; obtain ⟨rfl, v1, hn, hk⟩ := hh; have HN1 := Aside0.mk hn; have HB1 := Aside0.mk (HB0.out.trans hk.below); clear hn hk)
    | (go_at_call 11; (with_reducible refine (send_calls HN1.out 2 1 ⟨#[98]⟩).mono ?_); rintro e w2 hh; rw [fs2] at hh; dsimp only at hh; obtain ⟨rfl, v2, hn, hk⟩ := hh; have HN2 := Aside0.mk hn; have HB2 := Aside0.mk (HB1.out.trans hk.below); clear hn hk)
    | (go_at_call 14; (with_reducible refine (part_calls HN2.out 1 2).mono ?_); rintro e w3 ⟨rfl, hn, hk⟩; have HN3 := Aside0.mk (show NetAt w.heap.size w3 g v2 N3 from hn); have HB3 := Aside0.mk (HB2.out.trans hk.below); clear hn hk)
    | (go_at_call 21; (with_reducible refine (Ready_calls HN3.out g3 (by decide)).mono ?_); rintro e w4 ⟨v4, rfl, ho, hb⟩; rw [fr3] at ho; have HN4 := Aside0.mk (HN3.out.below hb); have HB4 := Aside0.mk (HB3.out.trans (hb.mono HB3.out.size)); obtain ⟨A4, c4, e4⟩ := Kd.R_slice ho; subst e4; clear ho hb)
    | (go_at_call 18; (with_reducible refine (heal_calls HN4.out).mono ?_); rintro e w5 hh; rw [fh] at hh; obtain ⟨rfl, hn, hk⟩ := hh; have HN5 := Aside0.mk hn; have HB5 := Aside0.mk (HB4.out.trans hk.below); clear hn hk)
    | (go_at_call 21; (with_reducible refine (Ready_calls HN5.out g2 (by decide)).mono ?_); rintro e w6 ⟨v6, rfl, ho, hb⟩; rw [fr2] at ho; have HN6 := Aside0.mk (HN5.out.below hb); have HB6 := Aside0.mk (HB5.out.trans (hb.mono HB5.out.size)); obtain ⟨A6, c6, e6⟩ := Kd.R_slice ho; subst e6; clear ho hb)
    | (go_at_call 13; (with_reducible refine (take_calls HN6.out g2 (by decide) 1 (by decide)).mono ?_); rintro e w7 hh; rw [ft] at hh; dsimp only at hh; obtain ⟨he, v7, hn, hk⟩ := hh; obtain rfl : e = .returned (.tuple #[.agg #[.int .i64 2, .int .i64 2, .int .i64 1, .string ⟨#[98]⟩, .int .i64 0], .bool true]) := he; have HN7 := Aside0.mk hn; have HB7 := Aside0.mk (HB6.out.trans hk.below); clear hn hk)
    | ((with_reducible refine gate_dst (N := 8) rfl ?_); refine box_event ?hg (N := 8) ?hd (cs := #[.int .i64 0, .int .i64 0, .int .i64 0, .string ⟨#[]⟩, .int .i64 0]) (t := 29) ?hr ?_; (case hd => rfl); (case hg => rfl); (case hr => first | (go_simp; done) | (go_simp; rfl)); intro gb hg w8 hbox hb; have HX8 := Aside0.mk hbox; have HF8 := Aside0.mk (HN7.out.fresh (Nat.le_of_eq hg.symm)); have HN8 := Aside0.mk (HN7.out.below hb); have HB8 := Aside0.mk (HB7.out.trans (hb.mono HB7.out.size)); have HG8 := Aside0.mk hg; clear hbox hb hg)
    | (refine store_box rfl (.tmp 8) (.tmp 38) rfl gb _ (by rfl) rfl a2 (by rfl) HX8.out ?_; intro w9 hx9 hfar9 hb9; have HX9 := Aside0.mk hx9; have HN9 := Aside0.mk (HN8.out.keep hb9.size (hfar9 g HF8.out.1.symm) (fun k hk => hfar9 k (by rintro rfl; exact HF8.out.2 hk))); have HB9 := Aside0.mk (HB8.out.trans (hb9.mono (by have h1 := HB7.out.size; have h2 := HG8.out; omega))); clear hx9 hfar9 hb9)
    | (go_at_call 11; (with_reducible refine (send_calls HN9.out 1 2 ⟨#[99]⟩).mono ?_); rintro e w10 hh; rw [fs3] at hh; dsimp only at hh; obtain ⟨rfl, v10, hn, hk⟩ := hh; have HN10 := Aside0.mk hn; have HX10 := Aside0.mk (hk.box HX9.out HF8.out.1 HF8.out.2); have HB10 := Aside0.mk (HB9.out.trans hk.below); clear hn hk)
    | (go_at_call 24; (with_reducible refine (drop_calls HN10.out 0 (by decide) (by decide)).mono ?_); rintro e w11 hh; rw [fd] at hh; dsimp only at hh; obtain ⟨rfl, v11, hn, hk⟩ := hh; have HN11 := Aside0.mk hn; have HX11 := Aside0.mk (hk.box HX10.out.1 HF8.out.1 HX10.out.2); have HB11 := Aside0.mk (HB10.out.trans hk.below); clear hn hk)
    | (go_at_call 12; (with_reducible refine (double_calls HN11.out 0 (by decide)).mono ?_); rintro e w12 hh; rw [fb] at hh; dsimp only at hh; obtain ⟨rfl, v12, hn, hk⟩ := hh; have HN12 := Aside0.mk hn; have HX12 := Aside0.mk (hk.box HX11.out.1 HF8.out.1 HX11.out.2); have HB12 := Aside0.mk (HB11.out.trans hk.below); have y3 := blk_cell HX12.out.1 3; simp only [mail_cells, List.getElem?_toArray, List.getElem?_cons_zero, List.getElem?_cons_succ, a2] at y3; clear hn hk)
    | (go_at_call 16; (with_reducible refine (waits_calls HN12.out).mono ?_); rintro e w13 hh; rw [fl8] at hh; obtain ⟨rfl, rfl⟩ := hh))
  trace_state
  go_ret
  exact ⟨rfl, HB12.out⟩
end Go.Proofs.Ytnggcegfieeonaa.Nx
