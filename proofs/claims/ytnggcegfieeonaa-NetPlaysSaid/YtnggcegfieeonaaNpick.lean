/- What is proved: plain facts of what Take takes: one of those that may come. No condition but what each theorem says. -/
import Derived.Test.YtnggcegfieeonaaNages
namespace Go.Proofs.Ytnggcegfieeonaa.Nx
open Go.RowKit Go.Proofs.YtnggcegfieeonaaW.PrintWords Go.Proofs.YtnggcegfieeonaaW.PrintLast Go.Proofs.YtnggcegfieeonaaW.PrintMore
set_option linter.unusedVariables false
set_option linter.unusedSimpArgs false
/-- May it come? -/
def opn (P : Nat → Bool) (m : Mail) : Bool := !P (key m)
def ixs (q : Mail → Bool) : List Mail → List Nat
  | [] => []
  | m :: l => if q m = true then 0 :: (ixs q l).map (· + 1) else (ixs q l).map (· + 1)
theorem ixs_len (q : Mail → Bool) (l : List Mail) : (ixs q l).length = (l.filter q).length := by
  induction l with
  | nil => rfl
  | cons m l ih =>
    rw [ixs, List.filter_cons]
    split <;> simp [ih]
theorem ixs_snoc (q : Mail → Bool) (l : List Mail) (m : Mail) : ixs q (l ++ [m]) = if q m = true then ixs q l ++ [l.length] else ixs q l := by
  induction l with
  | nil => by_cases h : q m = true <;> simp [ixs, h]
  | cons a l ih =>
    rw [List.cons_append, ixs, ixs, ih]
    by_cases h : q m = true <;> by_cases h2 : q a = true <;> simp [h, h2]
theorem readyI_ixs (S : Net) (i : Nat) (hi : i ≤ S.mail.length) : readyI S i = (ixs (opn S.P) (S.mail.take i)).map fun j => ((j : Nat) : Int) := by
  induction i with
  | zero => simp [readyI, ixs]
  | succ i ih =>
    have h : S.mail.take (i + 1) = S.mail.take i ++ [S.mail.getD i zeroMail] := by
      rw [List.take_add_one, List.getD_eq_getElem?_getD, List.getElem?_eq_getElem (by omega)]; rfl
    rw [readyI, ih (by omega), h, ixs_snoc]
    unfold opn
    by_cases hp : S.P (key (S.mail.getD i zeroMail)) = true
    · rw [if_pos hp, if_neg (by rw [hp]; simp)]
    · rw [if_neg hp, if_pos (by simpa using hp), List.map_append, List.length_take, Nat.min_eq_left (by omega)]
      rfl
theorem readyI_full (S : Net) : readyI S S.mail.length = (ixs (opn S.P) S.mail).map fun j => ((j : Nat) : Int) := by rw [readyI_ixs S _ (Nat.le_refl _), List.take_length]
theorem ixs_at (q : Mail → Bool) (l : List Mail) : ∀ p, p < (l.filter q).length → ∃ j, (ixs q l)[p]? = some j ∧ j < l.length ∧ l[j]? = (l.filter q)[p]? ∧ (l.eraseIdx j).filter q = (l.filter q).eraseIdx p ∧ (l.eraseIdx j).filter (fun m => !q m) = l.filter (fun m => !q m) := by
  induction l with
  | nil => intro p hp; simp at hp
  | cons m l ih =>
    intro p hp
    by_cases h : q m = true
    · rw [List.filter_cons, if_pos h] at hp ⊢
      cases p with
      | zero => exact ⟨0, by rw [ixs, if_pos h]; rfl, by simp, rfl, rfl, by rw [List.filter_cons, if_neg (by rw [h]; simp)]; rfl⟩
      | succ p =>
        obtain ⟨j, h1, h2, h3, h4, h5⟩ := ih p (by simpa using hp)
        refine ⟨j + 1, by rw [ixs, if_pos h]; simp [h1], by simpa using h2, by simpa using h3, ?_, ?_⟩
        · rw [List.eraseIdx_cons_succ, List.filter_cons, if_pos h, h4, List.eraseIdx_cons_succ]
        · rw [List.eraseIdx_cons_succ, List.filter_cons, if_neg (by rw [h]; simp), h5, List.filter_cons, if_neg (by rw [h]; simp)]
    · rw [List.filter_cons, if_neg h] at hp ⊢
      obtain ⟨j, h1, h2, h3, h4, h5⟩ := ih p hp
      refine ⟨j + 1, by rw [ixs, if_neg h]; simp [h1], by simpa using h2, by simpa using h3, ?_, ?_⟩
      · rw [List.eraseIdx_cons_succ, List.filter_cons, if_neg h, h4]
      · rw [List.eraseIdx_cons_succ, List.filter_cons, if_pos (by simpa using h), h5, List.filter_cons, if_pos (by simpa using h)]
theorem takeF_no (S : Net) (which : Int) (h : S.mail.filter (opn S.P) = []) : takeF S which = (zeroMail, false, S) := by
  rw [takeF, if_pos]
  rw [readyI_full, List.length_map, ixs_len, h]
  rfl
theorem takeF_yes (S : Net) (which : Int) (hw : (Lit.int .i64 which).wf = true) (h : 0 < (S.mail.filter (opn S.P)).length) : ∃ j m, j < S.mail.length ∧ S.mail[j]? = some m ∧ takeF S which = (told S m, true, { S with mail := S.mail.eraseIdx j }) ∧
    (S.mail.filter (opn S.P))[pickN which (S.mail.filter (opn S.P)).length]? = some m ∧ (S.mail.eraseIdx j).filter (opn S.P) = (S.mail.filter (opn S.P)).eraseIdx (pickN which (S.mail.filter (opn S.P)).length) ∧ (S.mail.eraseIdx j).filter (fun m => !opn S.P m) = S.mail.filter (fun m => !opn S.P m) := by
  have hp := (pick_told which hw _ h).2
  obtain ⟨j, h1, h2, h3, h4, h5⟩ := ixs_at (opn S.P) S.mail _ hp
  have hl : (readyI S S.mail.length).length = (S.mail.filter (opn S.P)).length := by rw [readyI_full, List.length_map, ixs_len]
  have hj : (readyI S S.mail.length).getD (pickN which (readyI S S.mail.length).length) 0 = (j : Int) := by
    rw [hl, readyI_full, List.getD_eq_getElem?_getD, List.getElem?_map, h1]; rfl
  refine ⟨j, S.mail[j], h2, List.getElem?_eq_getElem h2, ?_, ?_, h4, h5⟩
  · rw [takeF, if_neg (by omega), hj, Int.toNat_natCast, List.getD_eq_getElem?_getD, List.getElem?_eq_getElem h2]
    rfl
  · rw [← h3, List.getElem?_eq_getElem h2]
theorem mem_opn {S : Net} {j : Nat} {m : Mail} (h : (S.mail.filter (opn S.P))[j]? = some m) : m ∈ S.mail ∧ opn S.P m = true := by
  have := List.mem_of_getElem? h
  exact List.mem_filter.1 this
theorem pick0 (k : Nat) : pickN 0 k = 0 := by
  unfold pickN
  rw [if_neg (by omega), Int.zero_tmod]
  rfl
/-- The network behind j takes of the first. -/
def firsts (S : Net) : Nat → Net
  | 0 => S
  | j + 1 => (takeF (firsts S j) 0).2.2
theorem firsts_facts (S : Net) (hg : S.Good) (j : Nat) (hj : j ≤ (S.mail.filter (opn S.P)).length) : (firsts S j).P = S.P ∧ (firsts S j).Good ∧ (firsts S j).mail.filter (opn S.P) = (S.mail.filter (opn S.P)).drop j ∧ (firsts S j).mail.filter (fun m => !opn S.P m) = S.mail.filter (fun m => !opn S.P m) ∧ (firsts S j).mail.length ≤ S.mail.length := by
  induction j with
  | zero => exact ⟨rfl, hg, rfl, rfl, Nat.le_refl _⟩
  | succ j ih =>
    obtain ⟨h1, h2, h3, h4, h5⟩ := ih (by omega)
    have hp : 0 < ((firsts S j).mail.filter (opn (firsts S j).P)).length := by rw [h1, h3, List.length_drop]; omega
    obtain ⟨i, m, k1, k2, k3, k4, k5, k6⟩ := takeF_yes (firsts S j) 0 (by decide) hp
    rw [firsts, k3]
    rw [pick0, h1, h3] at k5
    rw [h1, h4] at k6
    refine ⟨h1, good_erase h2 i, ?_, k6, ?_⟩
    · show ((firsts S j).mail.eraseIdx i).filter (opn S.P) = _
      rw [k5, List.eraseIdx_zero, List.tail_drop]
    · show ((firsts S j).mail.eraseIdx i).length ≤ _
      rw [List.length_eraseIdx, if_pos k1]
      omega
theorem firsts_take (S : Net) (hg : S.Good) (j : Nat) (hj : j < (S.mail.filter (opn S.P)).length) : takeF (firsts S j) 0 = (told (firsts S j) ((S.mail.filter (opn S.P)).getD j zeroMail), true, firsts S (j + 1)) := by
  obtain ⟨h1, h2, h3, h4, h5⟩ := firsts_facts S hg j (by omega)
  have hp : 0 < ((firsts S j).mail.filter (opn (firsts S j).P)).length := by rw [h1, h3, List.length_drop]; omega
  obtain ⟨i, m, k1, k2, k3, k4, k5, k6⟩ := takeF_yes (firsts S j) 0 (by decide) hp
  rw [pick0, h1, h3, List.getElem?_drop, Nat.add_zero] at k4
  rw [List.getD_eq_getElem?_getD, k4, firsts, k3]
  rfl
theorem firsts_none (S : Net) (hg : S.Good) : takeF (firsts S (S.mail.filter (opn S.P)).length) 0 = (zeroMail, false, firsts S (S.mail.filter (opn S.P)).length) := by
  obtain ⟨h1, h2, h3, h4, h5⟩ := firsts_facts S hg _ (Nat.le_refl _)
  exact takeF_no _ _ (by rw [h1, h3, List.drop_length])
theorem opn_split (q : Mail → Bool) (l : List Mail) (h : l.filter q = []) : l.filter (fun m => !q m) = l := by
  rw [List.filter_eq_self]
  intro m hm
  have := List.filter_eq_nil_iff.1 h m hm
  simpa using this
end Go.Proofs.Ytnggcegfieeonaa.Nx
