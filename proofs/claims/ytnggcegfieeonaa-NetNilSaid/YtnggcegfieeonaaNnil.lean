/- What is proved: that NetNil answers true at every input. No condition. -/
import Derived.Test.YtnggcegfieeonaaNwj
namespace Go.Proofs.Ytnggcegfieeonaa.Nx
open Go.RowKit Go.Proofs.YtnggcegfieeonaaW.PrintWords Go.Proofs.YtnggcegfieeonaaW.PrintLast Go.Proofs.YtnggcegfieeonaaW.PrintMore
open Go.Proofs.Ytnggcegfieeonaa.PNetFull
set_option linter.unusedVariables false
set_option linter.unusedSimpArgs false
set_option maxHeartbeats 8000000
set_option maxRecDepth 100000
theorem heal_nil (w : World) : Calls Try.prog 18 #[.pointer none] w fun e w' => e = .returned (.tuple #[]) ∧ w' = w := by
  go_enter Try.func18, Try.ntmps18
  go_wp2
  go_end0
  exact ⟨rfl, rfl⟩
theorem tick_nil (w : World) : Calls Try.prog 20 #[.pointer none] w fun e w' => e = .returned (.tuple #[]) ∧ w' = w := by
  go_enter Try.func20, Try.ntmps20
  go_wp2
  go_end0
  exact ⟨rfl, rfl⟩
theorem send_nil (w : World) (a b : Int) (s : ByteArray) : Calls Try.prog 11 #[.pointer none, .int .i64 a, .int .i64 b, .string s] w fun e w' => e = .returned (.tuple #[.int .i64 0, .bool false]) ∧ w' = w := by
  go_enter Try.func11, Try.ntmps11
  go_wp2
  go_ret2
  exact ⟨rfl, rfl⟩
theorem set_nil (w : World) (a b : Int) (x : Bool) : Calls Try.prog 42 #[.pointer none, .int .i64 a, .int .i64 b, .bool x] w fun e w' => e = .returned (.bool false) ∧ w' = w := by
  go_enter Try.func42, Try.ntmps42
  go_wp2
  go_ret
  exact ⟨rfl, rfl⟩
theorem part_nil (w : World) (a b : Int) : Calls Try.prog 14 #[.pointer none, .int .i64 a, .int .i64 b] w fun e w' => e = .returned (.bool false) ∧ w' = w := by
  go_enter Try.func14, Try.ntmps14
  go_wp2_with (first | (go_at_call 42; (with_reducible refine (set_nil _ a b true).mono ?_); rintro e w' ⟨rfl, rfl⟩))
  go_ret
  exact ⟨rfl, rfl⟩
theorem join_nil (w : World) (a b : Int) : Calls Try.prog 19 #[.pointer none, .int .i64 a, .int .i64 b] w fun e w' => e = .returned (.bool false) ∧ w' = w := by
  go_enter Try.func19, Try.ntmps19
  go_wp2_with (first | (go_at_call 42; (with_reducible refine (set_nil _ a b false).mono ?_); rintro e w' ⟨rfl, rfl⟩))
  go_ret
  exact ⟨rfl, rfl⟩
theorem parted_nil (w : World) (a b : Int) : Calls Try.prog 17 #[.pointer none, .int .i64 a, .int .i64 b] w fun e w' => e = .returned (.bool false) ∧ w' = w := by
  go_enter Try.func17, Try.ntmps17
  go_wp2
  go_ret
  exact ⟨rfl, rfl⟩
theorem Ready_nil (w : World) : Calls Try.prog 21 #[.pointer none] w fun e w' => e = .returned (.slice none 0 0) ∧ w' = w := by
  go_enter Try.func21, Try.ntmps21
  go_wp2
  go_ret
  exact ⟨rfl, rfl⟩
theorem waits_nil (w : World) : Calls Try.prog 16 #[.pointer none] w fun e w' => e = .returned (.int .i64 0) ∧ w' = w := by
  go_enter Try.func16, Try.ntmps16
  go_wp2
  go_ret
  exact ⟨rfl, rfl⟩
theorem oldest_nil (w : World) : Calls Try.prog 22 #[.pointer none] w fun e w' => e = .returned (.int .i64 0) ∧ w' = w := by
  go_enter Try.func22, Try.ntmps22
  go_wp2_with (first | (go_at_call 16; (with_reducible refine (waits_nil _).mono ?_); rintro e w' ⟨rfl, rfl⟩))
  go_ret
  exact ⟨rfl, rfl⟩
theorem drop_nil (w : World) (k : Int) : Calls Try.prog 24 #[.pointer none, .int .i64 k] w fun e w' => e = .returned (.bool false) ∧ w' = w := by
  go_enter Try.func24, Try.ntmps24
  go_wp2_with (first | (go_at_call 16; (with_reducible refine (waits_nil _).mono ?_); rintro e w' ⟨rfl, rfl⟩))
  go_ret
  exact ⟨rfl, rfl⟩
theorem double_nil (w : World) (k : Int) : Calls Try.prog 12 #[.pointer none, .int .i64 k] w fun e w' => e = .returned (.bool false) ∧ w' = w := by
  go_enter Try.func12, Try.ntmps12
  go_wp2_with (first | (go_at_call 16; (with_reducible refine (waits_nil _).mono ?_); rintro e w' ⟨rfl, rfl⟩))
  go_ret
  exact ⟨rfl, rfl⟩
theorem lose_nil (w : World) (k : Int) : Calls Try.prog 30 #[.pointer none, .int .i64 k] w fun e w' => e = .returned (.int .i64 0) ∧ Below w.heap.size w w' := by
  go_enter Try.func30, Try.ntmps30
  go_wp2_with (first | (go_at_call 16; (with_reducible refine (waits_nil _).mono ?_); rintro e w' ⟨rfl, rfl⟩))
  go_ret
  exact ⟨rfl, Below.alloc (Below.refl _ _) (Nat.le_refl _) _⟩
theorem take_nil (w : World) (k : Int) : Calls Try.prog 13 #[.pointer none, .int .i64 k] w fun e w' => e = .returned (.tuple #[zeroMail.val, .bool false]) ∧ Below w.heap.size w w' := by
  have hu29 := Try.underlying29
  have hz := zero29
  go_enter Try.func13, Try.ntmps13
  go_wp2_with (first
    | ((with_reducible refine gate_dst (N := 4) rfl ?_); refine box_event ?hg (N := 4) ?hd (cs := #[.int .i64 0, .int .i64 0, .int .i64 0, .string ⟨#[]⟩, .int .i64 0]) (t := 29) ?hr ?_; (case hd => rfl); (case hg => rfl); (case hr => first | (go_simp; done) | (go_simp; rfl)); intro gb hg w1 hbox hb; have HB1 := Aside0.mk hb; have HG1 := Aside0.mk hg; have HX1 := Aside0.mk hbox; clear hbox hb hg)
    | (refine store_box rfl (.tmp 4) (.tmp 11) rfl gb _ (by rfl) rfl zeroMail (by rfl) HX1.out ?_; intro w3 hx3 hfar3 hb3; have HX3 := Aside0.mk hx3; have HB3 := Aside0.mk (HB1.out.trans (hb3.mono (Nat.le_of_eq HG1.out.symm))); clear hx3 hfar3 hb3))
  (try simp only [Act.put, List.setIfInBounds_toArray, List.set_cons_zero, List.set_cons_succ])
  go_wp2
  refine bodyPost_ret (results_ct rfl _ _ gb 29 zeroMail.cells.toArray (0, 0) _ rfl HX3.out Try.underlying29 rfl (by kernel_rfl)) rfl ?_
  exact ⟨rfl, HB3.out⟩
def NX : Net := ⟨[⟨1, 1, 2, ⟨#[120]⟩, 0⟩], 1, 0, fun _ => false⟩
theorem fsx : sendF emptyNet 1 2 ⟨#[120]⟩ = (1, true, NX) := by kernel_rfl
theorem flx : NX.mail.length = 1 := rfl
theorem NetNil_all (k : Int) (hk : (Lit.int .i64 k).wf = true) (w : World) : Calls Try.prog 8 #[.int .i64 k] w fun e w' => e = .returned (.bool true) ∧ Below w.heap.size w w' := by
  have hu29 := Try.underlying29
  have hz9 := zero29
  obtain ⟨Z, hb5, hx5, hgz⟩ := zero55
  have HGZ := Aside0.mk hgz
  clear hgz hx5
  go_enter Try.func8, Try.ntmps8
  go_wp2_with (first
    | ((with_reducible refine gate_dst (N := 12) rfl ?_); refine box_event ?hg (N := 12) ?hd (cs := Z) (t := 55) ?hr ?_; (case hd => rfl); (case hg => rfl); (case hr => first | (go_simp; done) | (go_simp; rfl)); intro g hg w1 hbox hb1; have HB1 := Aside0.mk hb1; have HN1 := Aside0.mk (show NetAt w.heap.size w1 g (.slice none 0 0) emptyNet from ⟨Nat.le_of_eq hg.symm, ⟨Z, hbox, goodN_row HGZ.out⟩, World.ownsRow_nil _ _ _ _⟩); clear hbox hb1 hg)
    | (go_at_call 18; (with_reducible refine (heal_nil _).mono ?_); rintro e w' ⟨rfl, rfl⟩)
    | (go_at_call 20; (with_reducible refine (tick_nil _).mono ?_); rintro e w' ⟨rfl, rfl⟩)
    | (go_at_call 11; (with_reducible refine (send_nil _ 1 2 ⟨#[120]⟩).mono ?_); rintro e w' ⟨rfl, rfl⟩)
    | (go_at_call 13; (with_reducible refine (take_nil _ k).mono ?_); rintro e w2 ⟨he, hb⟩; obtain rfl : e = .returned (.tuple #[.agg #[.int .i64 0, .int .i64 0, .int .i64 0, .string ⟨#[]⟩, .int .i64 0], .bool false]) := he; have HN2 := Aside0.mk (HN1.out.below hb); have HB2 := Aside0.mk (HB1.out.trans (hb.mono HB1.out.size)); clear hb)
    | ((with_reducible refine gate_dst (N := 7) rfl ?_); refine box_event ?hg (N := 7) ?hd (cs := #[.int .i64 0, .int .i64 0, .int .i64 0, .string ⟨#[]⟩, .int .i64 0]) (t := 29) ?hr ?_; (case hd => rfl); (case hg => rfl); (case hr => first | (go_simp; done) | (go_simp; rfl)); intro gb hg w3 hbox hb; have HX3 := Aside0.mk hbox; have HF3 := Aside0.mk (HN2.out.fresh (Nat.le_of_eq hg.symm)); have HN3 := Aside0.mk (HN2.out.below hb); have HB3 := Aside0.mk (HB2.out.trans (hb.mono HB2.out.size)); have HG3 := Aside0.mk hg; clear hbox hb hg)
    | (refine store_box rfl (.tmp 7) (.tmp 26) rfl gb _ (by rfl) rfl zeroMail (by rfl) HX3.out ?_; intro w4 hx4 hfar4 hb4; have HN4 := Aside0.mk (HN3.out.keep hb4.size (hfar4 g HF3.out.1.symm) (fun k hk => hfar4 k (by rintro rfl; exact HF3.out.2 hk))); have HB4 := Aside0.mk (HB3.out.trans (hb4.mono (by have h1 := HB2.out.size; have h2 := HG3.out; omega))); clear hx4 hfar4 hb4)
    | (go_at_call 11; (with_reducible refine (send_calls HN4.out 1 2 ⟨#[120]⟩).mono ?_); rintro e w5 hh; rw [fsx] at hh; dsimp only at hh; obtain ⟨rfl, v5, hn, hk5⟩ := hh; have HN5 := Aside0.mk hn; have HB5 := Aside0.mk (HB4.out.trans hk5.below); clear hn hk5)
    | (go_at_call 9; (with_reducible refine (awake_calls _).mono ?_); rintro e w6 ⟨rfl, hb⟩; have HN6 := Aside0.mk (HN5.out.below hb); have HB6 := Aside0.mk (HB5.out.trans (hb.mono HB5.out.size)); clear hb)
    | (go_at_call 14; (with_reducible refine (part_nil _ 1 2).mono ?_); rintro e w' ⟨rfl, rfl⟩)
    | (go_at_call 19; (with_reducible refine (join_nil _ 1 2).mono ?_); rintro e w' ⟨rfl, rfl⟩)
    | (go_at_call 17; (with_reducible refine (parted_nil _ 1 2).mono ?_); rintro e w' ⟨rfl, rfl⟩)
    | (go_at_call 21; (with_reducible refine (Ready_nil _).mono ?_); rintro e w' ⟨rfl, rfl⟩)
    | (go_at_call 22; (with_reducible refine (oldest_nil _).mono ?_); rintro e w' ⟨rfl, rfl⟩)
    | (go_at_call 30; (with_reducible refine (lose_nil _ k).mono ?_); rintro e w7 ⟨rfl, hb⟩; have HN7 := Aside0.mk (HN6.out.below hb); have HB7 := Aside0.mk (HB6.out.trans (hb.mono HB6.out.size)); clear hb)
    | (go_at_call 24; (with_reducible refine (drop_nil _ k).mono ?_); rintro e w' ⟨rfl, rfl⟩)
    | (go_at_call 12; (with_reducible refine (double_nil _ k).mono ?_); rintro e w' ⟨rfl, rfl⟩)
    | (go_at_call 16; (with_reducible refine (waits_nil _).mono ?_); rintro e w' ⟨rfl, rfl⟩)
    | (go_at_call 16; (with_reducible refine (waits_calls HN7.out).mono ?_); rintro e w' hh; rw [flx] at hh; obtain ⟨rfl, rfl⟩ := hh))

  go_ret
  exact ⟨rfl, HB7.out⟩
end Go.Proofs.Ytnggcegfieeonaa.Nx
