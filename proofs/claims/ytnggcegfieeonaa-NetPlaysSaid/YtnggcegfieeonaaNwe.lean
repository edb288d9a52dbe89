/- What is proved: what the network's method Ready comes to. No condition but what each theorem says. -/
import Derived.Test.YtnggcegfieeonaaNwd
namespace Go.Proofs.Ytnggcegfieeonaa.Nx
open Go.RowKit Go.Proofs.YtnggcegfieeonaaW.PrintWords Go.Proofs.YtnggcegfieeonaaW.PrintLast Go.Proofs.YtnggcegfieeonaaW.PrintMore
open Go.Proofs.Ytnggcegfieeonaa.PNetFull
set_option linter.unusedVariables false
set_option linter.unusedSimpArgs false
theorem cells_one (m : Mail) : ∀ u ∈ m.cells, u.oneCell' = true := by simp [Mail.cells, Value.oneCell']
/-- Messages as the rows' words have them. -/
def kMail : Kd Mail where
  sz := 5
  E := []
  K := fun _ x cs => cs = x.cells
  M := fun _ _ _ x cs => cs = x.cells
  K_len := fun h => by rw [h]; rfl
  K_one := fun h => by rw [h]; exact cells_one _
  K_below := fun _ h => h
  K_of_M := fun h => h
  M_mono := fun _ h => h
  M_bound := fun h => h
  M_move := fun _ h => h
  M_lower := fun _ h => h
/-- The first i that may come, as they are told. -/
def readyM (S : Net) (l : List Int) : List Mail := l.map fun i => told S (S.mail.getD i.toNat zeroMail)
theorem readyI_in (S : Net) (n : Nat) : ∀ x ∈ readyI S n, 0 ≤ x ∧ x < (n : Int) := by
  induction n with
  | zero => intro x hx; cases hx
  | succ n ih =>
    intro x hx
    rw [readyI] at hx
    split at hx
    · have := ih x hx; omega
    · rcases List.mem_append.1 hx with hx | hx
      · have := ih x hx; omega
      · rw [List.mem_singleton.1 hx]; omega
set_option maxHeartbeats 8000000 in
set_option maxRecDepth 100000 in
theorem Ready_calls {B : Nat} {w : World} {g : Nat} {v : Value} {S : Net} (h : NetAt B w g v S) (hgood : S.Good) (hlen : S.mail.length < 1000000) :
    Calls Try.prog 21 #[.pointer (some ⟨g, 0, none⟩)] w fun e w' => ∃ v0, e = .returned v0 ∧ Kd.R kMail 29 w' w.heap.size (fun _ => True) v0 (readyM S (readyI S S.mail.length)) ∧ Below w.heap.size w w' := by
  have hu55 := Try.underlying55
  have hu29 := Try.underlying29
  obtain ⟨A, c, hv, _, _⟩ := h.slice
  subst hv
  have HN := Aside0.mk h
  have HL := Aside0.mk hlen
  have HGD := Aside0.mk hgood
  have HRL := Aside0.mk (readyI_len S S.mail.length)
  clear h hlen hgood
  obtain ⟨L, hLL⟩ : ∃ L, L = readyI S S.mail.length := ⟨_, rfl⟩
  have HLL := Aside0.mk hLL
  rw [← hLL] at HRL ⊢
  clear hLL
  go_enter Try.func21, Try.ntmps21
  go_wp2_with (first
    | (go_at_call 39; (with_reducible refine (ready_calls HN.out HGD.out HL.out).mono ?_); rintro e w1 ⟨v9, rfl, ho, hb⟩; rw [← HLL.out] at ho; have HO1 := Aside0.mk ho; have HB1 := Aside0.mk hb; obtain ⟨A9, c9, e9⟩ := Kd.R_slice ho; subst e9; clear ho hb))
  go_loopg [3, 11] L.length (fun kq v3 v11 wr => ∃ i : Nat, v11 = .int .i64 (i : Int) ∧ Aside0 (kq + i = L.length) ∧ Aside0 (Kd.R kMail 29 wr w.heap.size (fun _ => True) v3 (readyM S (L.take i))) ∧ Aside0 (Kd.R (Kd.int .i64) 3 wr w.heap.size (fun _ => True) (.slice A9 L.length c9) L) ∧ Aside0 (Below w.heap.size w wr))
  case atStart => exact ⟨0, rfl, ⟨rfl⟩, ⟨Kd.R_nil _ _ _ _ _⟩, HO1, HB1⟩
  case round =>
    obtain ⟨i, rfl, HI, HO, HR, HB⟩ := hrel
    have HN2 := Aside0.mk (HN.out.below HB.out)
    by_cases hlt : i < L.length
    · have f1 : decide ((i : Int) < (L.length : Int)) = true := decide_eq_true (by omega)
      have p1 : (0 : Int) ≤ (i : Int) := Int.natCast_nonneg _
      have q1 : (i : Int) < (L.length : Int) := by omega
      obtain ⟨ad9, ea9, hx9⟩ := Kd.at_int (Kd.R_reads' HR.out).2.2 (i : Int) p1 q1
      cases ea9
      have hmem : rd L (i : Int) ∈ readyI S S.mail.length := by
        rw [← HLL.out]
        unfold rd
        rw [Int.toNat_natCast, List.getD_eq_getElem?_getD, List.getElem?_eq_getElem hlt]
        exact List.getElem_mem hlt
      obtain ⟨j, hj⟩ : ∃ j : Nat, rd L (i : Int) = (j : Int) := ⟨(rd L (i : Int)).toNat, by have := (readyI_in S _ _ hmem).1; omega⟩
      have hjl : j < S.mail.length := by have := (readyI_in S _ _ hmem).2; omega
      rw [hj, Int.toNat_natCast] at hx9
      obtain ⟨m, hm⟩ : ∃ m, m = S.mail.getD j zeroMail := ⟨_, rfl⟩
      have HT := Aside0.mk (show readyM S (L.take (i + 1)) = readyM S (L.take i) ++ [told S m] by
        unfold readyM
        rw [List.take_add_one, List.getElem?_eq_getElem hlt, List.map_append]
        have : L[i] = (j : Int) := by
          rw [← hj]; unfold rd; rw [Int.toNat_natCast, List.getD_eq_getElem?_getD, List.getElem?_eq_getElem hlt]; rfl
        simp only [Option.toList_some, List.map_cons, List.map_nil, this, Int.toNat_natCast, hm])
      obtain ⟨b, c2, ev⟩ := HN.out.mailcell (by omega)
      injection ev with ev1 ev2 ev3
      subst ev1
      subst ev3
      have x0 := HN2.out.mailat j 0 hjl (by decide) (.int .i64 m.id) (by rw [hm]; rfl)
      rw [Nat.add_zero] at x0
      have x1 := HN2.out.mailat j 1 hjl (by decide) (.int .i64 m.frm) (by rw [hm]; rfl)
      have x2 := HN2.out.mailat j 2 hjl (by decide) (.int .i64 m.to_) (by rw [hm]; rfl)
      have x3 := HN2.out.mailat j 3 hjl (by decide) (.string m.body) (by rw [hm]; rfl)
      have x4 := HN2.out.mailat j 4 hjl (by decide) (.int .i64 m.age) (by rw [hm]; rfl)
      have r0 : (0 : Int) ≤ (j : Int) := Int.natCast_nonneg _
      have r1 : (j : Int) < (S.mail.length : Int) := by omega
      have hc0 := HN2.out.cell0
      have HLT := Aside0.mk hlt
      clear hm hmem hj hjl hlt
      go_wp2_with (first
        | (go_at_call 40; (refine (told_calls HN2.out m).mono ?_); rintro e w2 ⟨he, hb⟩; obtain rfl : e = .returned (.agg #[.int .i64 (told S m).id, .int .i64 (told S m).frm, .int .i64 (told S m).to_, .string (told S m).body, .int .i64 (told S m).age]) := he; have HB2 := Aside0.mk hb; have HO2 := Aside0.mk (Kd.R_below HO.out hb); have HR2 := Aside0.mk (Kd.R_below HR.out hb); have HB3 := Aside0.mk (HB.out.trans (hb.mono HB.out.size)); clear hb)
        | ((with_reducible refine gate_builtin (b := .append) (xs := #[.tmp 15, .tmp 25]) rfl ?_); at_builtin; refine Kd.R_append kMail (w0 := w) w.heap.size rfl (.tmp 15) (.tmp 25) 43 29 _ 48 rfl Try.underlying43 info29 rfl (by decide) (by omega) _ (readyM S (L.take i)) (told S m) (told S m).cells (fun _ => True) (fun _ => False) rfl rfl ?aP (fun _ hk => hk.elim) ?aF ?aO ?aB ?aS ?aL ?_; (case aP => exact rfl); (case aB => exact HB3.out); (case aF => exact (fun _ _ => trivial)); (case aO => exact HO2.out); (case aS => exact HB3.out.size); (case aL => have := HL.out; have := HRL.out; have := HLT.out; rw [readyM, List.length_map, List.length_take]; omega); intro v391 w18 ho hb hg hat; have HO5 := Aside0.mk ho; have HB5 := Aside0.mk hb; have HR5 := Aside0.mk (Kd.R_over' HR2.out (Kd.R_typed HO2.out) (by decide) hg); clear ho hb hg hat))

      go_roundg (gk - 1)
      case measure => have := HI.out; have := HLT.out; omega
      case rel => exact ⟨i + 1, by have := HL.out; have := HRL.out; have := HLT.out; rw [show wrap64 ((i : Int) + 1) = ((i + 1 : Nat) : Int) by rw [wrap64]; omega], ⟨by have := HI.out; have := HLT.out; omega⟩, ⟨by rw [HT.out]; exact HO5.out⟩, HR5, HB5⟩
    · have f1 : decide ((i : Int) < (L.length : Int)) = false := decide_eq_false (by omega)
      obtain rfl : i = L.length := by have := HI.out; omega
      go_wp2
      go_ret
      exact ⟨_, rfl, by have := HO.out; rw [List.take_length] at this; exact this, HB.out⟩
end Go.Proofs.Ytnggcegfieeonaa.Nx
