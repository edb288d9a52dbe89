/- What is proved: what the network's methods Drop and Double come to. No condition but what each theorem says. -/
import Derived.Test.YtnggcegfieeonaaNwf
namespace Go.Proofs.Ytnggcegfieeonaa.Nx
open Go.RowKit Go.Proofs.YtnggcegfieeonaaW.PrintWords Go.Proofs.YtnggcegfieeonaaW.PrintLast Go.Proofs.YtnggcegfieeonaaW.PrintMore
open Go.Proofs.Ytnggcegfieeonaa.PNetFull
set_option linter.unusedVariables false
set_option linter.unusedSimpArgs false
/-- One of k, by which. -/
def pickN (which : Int) (k : Nat) : Nat := (Int.tmod (if which < 0 then wrap64 (-(wrap64 (which + 1))) else which) (k : Int)).toNat
theorem pick_told (which : Int) (hw : (Lit.int .i64 which).wf = true) (k : Nat) (hk : 0 < k) : net_pick.f which (k : Int) = some ((pickN which k : Nat) : Int) ∧ pickN which k < k := by
  have hb : -9223372036854775808 ≤ which ∧ which < 9223372036854775808 := by
    have h : IntKind.i64.min ≤ which ∧ which ≤ 9223372036854775807 := by simpa [Lit.wf] using hw
    have e1 : IntKind.i64.min = -9223372036854775808 := by decide
    omega
  have go : ∀ m : Int, 0 ≤ m → ((Int.tmod m (k : Int)).toNat : Int) = Int.tmod m (k : Int) ∧ (Int.tmod m (k : Int)).toNat < k := fun m hm => by
    have h1 : Int.tmod m (k : Int) = m % (k : Int) := Int.tmod_eq_emod_of_nonneg hm
    have h2 := Int.emod_nonneg m (show (k : Int) ≠ 0 by omega)
    have h3 := Int.emod_lt_of_pos m (show (0 : Int) < (k : Int) by omega)
    rw [h1]
    omega
  unfold net_pick.f pickN
  have hz : ¬ (k : Int) = 0 := by omega
  by_cases h : which < 0
  · rw [if_pos h, if_pos h, if_neg hz]
    obtain ⟨h1, h2⟩ := go (wrap64 (-(wrap64 (which + 1)))) (by unfold wrap64; omega)
    exact ⟨by rw [h1], h2⟩
  · rw [if_neg h, if_neg h, if_neg hz]
    obtain ⟨h1, h2⟩ := go which (by omega)
    exact ⟨by rw [h1], h2⟩
/-- A message was deleted: the network behind it. -/
theorem NetAt.deleted {B : Nat} {w w1 : World} {g b n c i : Nat} {S : Net} {cur' : Array Value} (h : NetAt B w g (.slice (some ⟨b, 0, none⟩) n c) S) (hn : n = S.mail.length) (hi : i < S.mail.length)
    (p1 : w1.heap[b]? = some (.cells cur' 29 (0, 0))) (p2 : cur'.size = c * 5) (p3 : cur'.toList.take ((n - 1) * 5) = vals (S.mail.eraseIdx i)) (p4 : ∀ k, k ≠ b → w1.heap[k]? = w.heap[k]?) (p5 : Below b w w1) :
    NetAt B (w1.setCell ⟨g, 0, none⟩ (.slice (some ⟨b, 0, none⟩) (n - 1) c)) g (.slice (some ⟨b, 0, none⟩) (n - 1) c) { S with mail := S.mail.eraseIdx i } ∧
      Kp B w g (.slice (some ⟨b, 0, none⟩) n c) (w1.setCell ⟨g, 0, none⟩ (.slice (some ⟨b, 0, none⟩) (n - 1) c)) (.slice (some ⟨b, 0, none⟩) (n - 1) c) := by
  obtain ⟨cs, hb, hr⟩ := h.row
  have hne := h.ne
  have hbg : b ≠ g := fun e => hne (by rw [e]; rfl)
  have hB : B ≤ b ∧ c ≤ maxLen ∧ n ≤ c := by
    rcases h.own.2 with ⟨e, _⟩ | ⟨b', c', cur, e, h1, _, h3, h4, _⟩
    · cases e
    · injection e with e1 e2 e3
      injection e1 with e1
      injection e1 with e1
      subst e1
      subst e3
      exact ⟨h1, h4, by omega⟩
  have hlen : (S.mail.eraseIdx i).length = n - 1 := by rw [List.length_eraseIdx, if_pos hi, hn]
  have hb1 : w1.heap[g]? = some (.cells cs 55 (0, 0)) := by rw [p4 g hbg.symm]; exact hb
  refine ⟨⟨h.ge, ⟨_, blk_set hb1 0 _, row_set0 cs hr _ _⟩, by rw [vals_length], .inr ⟨b, c, cur', by rw [hlen], hB.1, ?_, by rw [hlen]; omega, hB.2.1, p2, by rw [hlen]; exact p3⟩⟩, ⟨(p5.mono hB.1).setCell h.ge _, ⟨?_, fun k hk h1 h2 => ?_⟩, .inl rfl⟩⟩
  · rw [Below.heap_setCell w1 ⟨g, 0, none⟩ _ b hbg]; exact p1
  · have := p5.size; simpa [World.setCell] using this
  · rw [Below.heap_setCell w1 ⟨g, 0, none⟩ _ k h1]
    exact p4 k (fun e => h2 (by rw [e]; rfl))
def dropF (S : Net) (which : Int) : Bool × Net := if S.mail.length = 0 then (false, S) else (true, { S with mail := S.mail.eraseIdx (pickN which S.mail.length) })
set_option maxHeartbeats 8000000 in
set_option maxRecDepth 100000 in
theorem drop_calls {B : Nat} {w : World} {g : Nat} {v : Value} {S : Net} (h : NetAt B w g v S) (which : Int) (hw : (Lit.int .i64 which).wf = true) (hlen : S.mail.length < 1000000) :
    Calls Try.prog 24 #[.pointer (some ⟨g, 0, none⟩), .int .i64 which] w fun e w' => e = .returned (.bool (dropF S which).1) ∧ ∃ v', NetAt B w' g v' (dropF S which).2 ∧ Kp B w g v w' v' := by
  have hu55 := Try.underlying55
  have hc0 := h.cell0
  by_cases h0 : S.mail.length = 0
  · have e0 : ((S.mail.length : Int) == 0) = true := by rw [h0]; rfl
    rw [dropF, if_pos h0]
    have HN := Aside0.mk h
    clear h h0
    go_enter Try.func24, Try.ntmps24
    go_wp2_with (first | (go_at_call 16; (with_reducible refine (waits_calls HN.out).mono ?_); rintro e w1 ⟨rfl, rfl⟩))
    go_ret
    exact ⟨rfl, v, HN.out, Kp.refl _ _ _ _⟩
  · obtain ⟨b, c, rfl⟩ := h.mailcell (by omega)
    have e0 : ((S.mail.length : Int) == 0) = false := by rw [beq_eq_false_iff_ne]; omega
    obtain ⟨hp, hpl⟩ := pick_told which hw S.mail.length (by omega)
    rw [dropF, if_neg h0]
    obtain ⟨i, hi⟩ : ∃ i, i = pickN which S.mail.length := ⟨_, rfl⟩
    rw [← hi] at hp hpl ⊢
    clear hi
    have hown := h.own.2
    obtain ⟨cur, hb, hcap, hmax, hcur, hl⟩ : ∃ cur, w.heap[b]? = some (.cells cur 29 (0, 0)) ∧ S.mail.length ≤ c ∧ c ≤ maxLen ∧ cur.size = c * 5 ∧ cur.toList.take (S.mail.length * 5) = vals S.mail := by
      rcases hown with ⟨e, _⟩ | ⟨b', c', cur, e, h1, h2, h3, h4, h5, h6⟩
      · cases e
      · injection e with e1 e2 e3
        injection e1 with e1
        injection e1 with e1
        subst e1
        subst e3
        exact ⟨cur, h2, h3, h4, h5, h6⟩
    have HN := Aside0.mk h
    have HP := Aside0.mk hp
    have HD := Aside0.mk (show ∀ nd, Calls Try.prog 41 #[.slice (some ⟨b, 0, none⟩) S.mail.length c, .int .i64 (i : Int), .int .i64 ((i : Int) + 1)] (w.drewN nd) fun e w' => e = .returned (.slice (some ⟨b, 0, none⟩) (S.mail.length - 1) c) ∧ ∃ cur', w'.heap[b]? = some (.cells cur' 29 (0, 0)) ∧ cur'.size = cur.size ∧ cur'.toList.take ((S.mail.length - 1) * 5) = vals (S.mail.eraseIdx i) ∧ (∀ k, k ≠ b → w'.heap[k]? = (w.drewN nd).heap[k]?) ∧ Below b (w.drewN nd) w' from fun nd => by
      have := delete_calls (w.drewN nd) b S.mail.length c i cur S.mail hb hcap hmax hcur hl rfl hpl
      rwa [show ((i + 1 : Nat) : Int) = (i : Int) + 1 from by omega] at this)
    have hbg : g ≠ b := fun e => h.ne (by rw [e]; rfl)
    have HBG := Aside0.mk hbg
    have HCUR := Aside0.mk hcur
    have HIL := Aside0.mk hpl
    have HL := Aside0.mk hlen
    have ew : wrap64 ((i : Int) + 1) = ((i + 1 : Nat) : Int) := by rw [wrap64]; omega
    have hf0 := h.frozen 0
    clear h h0 hp hpl hown hb hcap hmax hcur hl hlen hbg
    go_enter Try.func24, Try.ntmps24
    go_wp2_with (first
      | (go_at_call 16; (with_reducible refine (waits_calls HN.out).mono ?_); rintro e w1 ⟨rfl, rfl⟩)
      | (go_at_call 38; (with_reducible refine (net_pick.calls which _ _ _ HP.out).mono ?_); rintro e w1 ⟨rfl, ⟨nd, rfl⟩⟩)
      | (go_at_call 41; (refine (HD.out nd).mono ?_); rintro e w2 ⟨rfl, cur', p1, p2, p3, p4, p5⟩; have HDEL := Aside0.mk ((HN.out.drewN nd).deleted rfl HIL.out p1 (by rw [p2]; exact HCUR.out) p3 p4 p5); have hcz := (World.cell?_of_block (a := ⟨g, 0, none⟩) (p4 g HBG.out)).trans (HN.out.drewN nd).cell0; have hfz := (World.frozen?_of_block (a := ⟨g, 0, none⟩) (p4 g HBG.out)).trans ((HN.out.drewN nd).frozen 0); clear p1 p2 p3 p4 p5))
    go_ret
    exact ⟨rfl, _, HDEL.out.1, (Kp.of_below HN.out.base (pw_below_drewN (Below.refl _ _) nd)).trans HDEL.out.2⟩
end Go.Proofs.Ytnggcegfieeonaa.Nx
