/- What is proved: what the network's method Double comes to. No condition but what each theorem says. -/
import Derived.Test.YtnggcegfieeonaaNwg
namespace Go.Proofs.Ytnggcegfieeonaa.Nx
open Go.RowKit Go.Proofs.YtnggcegfieeonaaW.PrintWords Go.Proofs.YtnggcegfieeonaaW.PrintLast Go.Proofs.YtnggcegfieeonaaW.PrintMore
open Go.Proofs.Ytnggcegfieeonaa.PNetFull
set_option linter.unusedVariables false
set_option linter.unusedSimpArgs false
def putF (S : Net) (m : Mail) : Net := { S with mail := S.mail ++ [{ m with id := wrap64 (S.last + 1), age := S.now }], last := wrap64 (S.last + 1) }
def doubleF (S : Net) (which : Int) : Bool × Net := if S.mail.length = 0 ∨ 2000 ≤ S.mail.length then (false, S) else (true, putF S (S.mail.getD (pickN which S.mail.length) zeroMail))
set_option maxHeartbeats 8000000 in
set_option maxRecDepth 100000 in
theorem double_no {B : Nat} {w : World} {g : Nat} {v : Value} {S : Net} (h : NetAt B w g v S) (which : Int)
    (hh : ((S.mail.length : Int) == 0) = true ∨ (((S.mail.length : Int) == 0) = false ∧ decide ((S.mail.length : Int) ≥ 2000) = true)) :
    Calls Try.prog 12 #[.pointer (some ⟨g, 0, none⟩), .int .i64 which] w fun e w' => e = .returned (.bool false) ∧ w' = w := by
  have hu55 := Try.underlying55
  have hc0 := h.cell0
  obtain ⟨A, c, rfl, _, _⟩ := h.slice
  have HN := Aside0.mk h
  clear h
  rcases hh with e0 | ⟨e0, e1⟩
  all_goals
    go_enter Try.func12, Try.ntmps12
    go_wp2_with (first | (go_at_call 16; (with_reducible refine (waits_calls HN.out).mono ?_); rintro e w1 ⟨rfl, rfl⟩))
    go_ret
    exact ⟨rfl, rfl⟩
set_option maxHeartbeats 8000000 in
set_option maxRecDepth 100000 in
theorem double_yes {B : Nat} {w : World} {g : Nat} {v : Value} {S : Net} (h : NetAt B w g v S) (which : Int) (hw : (Lit.int .i64 which).wf = true) (h1 : 0 < S.mail.length) (h2 : S.mail.length < 2000) :
    Calls Try.prog 12 #[.pointer (some ⟨g, 0, none⟩), .int .i64 which] w fun e w' => e = .returned (.bool true) ∧ ∃ v', NetAt B w' g v' (putF S (S.mail.getD (pickN which S.mail.length) zeroMail)) ∧ Kp B w g v w' v' := by
  have hu55 := Try.underlying55
  have hu29 := Try.underlying29
  have hc0 := h.cell0
  obtain ⟨b, c, rfl⟩ := h.mailcell h1
  have e0 : ((S.mail.length : Int) == 0) = false := by rw [beq_eq_false_iff_ne]; omega
  have e1 : decide ((S.mail.length : Int) ≥ 2000) = false := decide_eq_false (by omega)
  obtain ⟨hp, hpl⟩ := pick_told which hw S.mail.length h1
  obtain ⟨i, hi⟩ : ∃ i, i = pickN which S.mail.length := ⟨_, rfl⟩
  rw [← hi] at hp hpl ⊢
  clear hi
  obtain ⟨m, hm⟩ : ∃ m, m = S.mail.getD i zeroMail := ⟨_, rfl⟩
  have x0 := h.mailat i 0 hpl (by decide) (.int .i64 m.id) (by rw [hm]; rfl)
  rw [Nat.add_zero] at x0
  have x1 := h.mailat i 1 hpl (by decide) (.int .i64 m.frm) (by rw [hm]; rfl)
  have x2 := h.mailat i 2 hpl (by decide) (.int .i64 m.to_) (by rw [hm]; rfl)
  have x3 := h.mailat i 3 hpl (by decide) (.string m.body) (by rw [hm]; rfl)
  have x4 := h.mailat i 4 hpl (by decide) (.int .i64 m.age) (by rw [hm]; rfl)
  have q0 : (0 : Int) ≤ (i : Int) := Int.natCast_nonneg _
  have q1 : (i : Int) < (S.mail.length : Int) := by omega
  rw [← hm]
  have HN := Aside0.mk h
  have HP := Aside0.mk hp
  have HL := Aside0.mk (show S.mail.length < 1000000 by omega)
  clear h h1 h2 hp hpl hm
  go_enter Try.func12, Try.ntmps12
  go_wp2_with (first | (go_at_call 16; (with_reducible refine (waits_calls HN.out).mono ?_); rintro e w1 ⟨rfl, rfl⟩))
  go_region_with (first
    | (go_at_call 38; (with_reducible refine (net_pick.calls which _ _ _ HP.out).mono ?_); rintro e w1 ⟨rfl, ⟨nd, rfl⟩⟩)
    | (go_at_call 37; (refine (put_calls (HN.out.drewN (1 + nd)) m HL.out).mono ?_); rintro e w2 ⟨rfl, v', hn, hk⟩; have HN3 := Aside0.mk hn; have HK3 := Aside0.mk ((Kp.of_below HN.out.base (pw_below_drewN (Below.refl _ _) (1 + nd))).trans hk); clear hn hk))
  all_goals
    go_wp2
    go_ret
    exact ⟨rfl, v', HN3.out, HK3.out⟩
theorem double_calls {B : Nat} {w : World} {g : Nat} {v : Value} {S : Net} (h : NetAt B w g v S) (which : Int) (hw : (Lit.int .i64 which).wf = true) :
    Calls Try.prog 12 #[.pointer (some ⟨g, 0, none⟩), .int .i64 which] w fun e w' => e = .returned (.bool (doubleF S which).1) ∧ ∃ v', NetAt B w' g v' (doubleF S which).2 ∧ Kp B w g v w' v' := by
  by_cases hc : S.mail.length = 0 ∨ 2000 ≤ S.mail.length
  · refine (double_no h which ?_).mono fun e w' hh => ?_
    · rcases hc with hc | hc
      · exact .inl (by rw [hc]; rfl)
      · exact .inr ⟨by rw [beq_eq_false_iff_ne]; omega, decide_eq_true (by omega)⟩
    · rw [doubleF, if_pos hc, hh.2]
      exact ⟨hh.1, v, h, Kp.refl _ _ _ _⟩
  · refine (double_yes h which hw (by omega) (by omega)).mono fun e w' hh => ?_
    rw [doubleF, if_neg hc]
    exact hh
end Go.Proofs.Ytnggcegfieeonaa.Nx
