/- What is proved: Nplayp, Nplaya: see each part's head. No condition but what each theorem says. -/
import Derived.Test.YtnggcegfieeonaaRng
import Derived.Test.YtnggcegfieeonaaNlose
/- What is proved: the plain facts of the statement NetPlays: call by call the two networks answer alike. No condition but what each theorem says. -/
namespace Go.Proofs.Ytnggcegfieeonaa.Nx
open Go.RowKit Go.Proofs.YtnggcegfieeonaaW.PrintWords Go.Proofs.YtnggcegfieeonaaW.PrintLast Go.Proofs.YtnggcegfieeonaaW.PrintMore
set_option linter.unusedVariables false
set_option linter.unusedSimpArgs false
structure Agree (S : Net) (R : RNet) (i : Nat) : Prop where
  mail : R.mail = S.mail.map (told S)
  last : R.last = S.last
  is_ : ∀ a b, rIs R a b = partF S a b
  ends : ∀ m ∈ S.mail, two m.frm m.to_ = true
  ids : (S.mail.map Mail.id).Pairwise (· < ·)
  le : ∀ m ∈ S.mail, m.id ≤ S.last
  lastb : 0 ≤ S.last ∧ S.last ≤ (i : Int)
  len : S.mail.length ≤ i
  now : 0 ≤ S.now ∧ S.now ≤ (i : Int)
  age : ∀ m ∈ S.mail, 0 ≤ m.age ∧ m.age ≤ S.now
  prs : R.prs.length ≤ i
theorem Agree.good {S : Net} {R : RNet} {i : Nat} (h : Agree S R i) : S.Good := fun m hm => two_ok (h.ends m hm)
theorem Agree.rlen {S : Net} {R : RNet} {i : Nat} (h : Agree S R i) : R.mail.length = S.mail.length := by rw [h.mail, List.length_map]
theorem Agree.more {S : Net} {R : RNet} {i : Nat} (h : Agree S R i) : Agree S R (i + 1) :=
  ⟨h.mail, h.last, h.is_, h.ends, h.ids, h.le, by have := h.lastb; omega, by have := h.len; omega, by have := h.now; omega, h.age, by have := h.prs; omega⟩
theorem agree_start : Agree emptyNet ⟨[], 0, []⟩ 0 :=
  ⟨rfl, rfl, fun a b => by show false = _; unfold partF; rw [Bool.and_comm]; rfl, fun m hm => (by cases hm), List.Pairwise.nil, fun m hm => (by cases hm), ⟨by decide, by decide⟩, Nat.le_refl _, ⟨by decide, by decide⟩, fun m hm => (by cases hm), Nat.le_refl _⟩
theorem told_age {S : Net} {m : Mail} (h0 : 0 ≤ m.age) (h1 : m.age ≤ S.now) (h2 : S.now ≤ 1000) : (told S m).age = S.now - m.age := by
  show wrap64 (S.now - m.age) = _
  unfold wrap64
  omega
/-- A message is put behind. -/
theorem Agree.put {S : Net} {R : RNet} {i : Nat} (h : Agree S R i) (hi : i ≤ 100) (m : Mail) (h1 : two m.frm m.to_ = true) (h2 : m.id = S.last + 1) (h3 : m.age = S.now) (m' : Mail) (hm : m' = { m with age := 0 }) : Agree { S with mail := S.mail ++ [m], last := S.last + 1 } { R with mail := R.mail ++ [m'], last := S.last + 1 } (i + 1) := by
  have hb := h.lastb
  have hn := h.now
  have hl := h.len
  have hp := h.prs
  refine ⟨?_, rfl, h.is_, fun x hx => ?_, ?_, fun x hx => ?_, ?_, ?_, ?_, fun x hx => ?_, ?_⟩
  · show R.mail ++ [m'] = (S.mail ++ [m]).map (told S)
    rw [List.map_append, h.mail]
    congr 1
    show [m'] = [told S m]
    rw [hm]
    unfold told
    rw [h3, show wrap64 (S.now - S.now) = 0 by unfold wrap64; omega]
  · rcases List.mem_append.1 hx with hx | hx
    · exact h.ends x hx
    · rw [List.mem_singleton.1 hx]; exact h1
  · show ((S.mail ++ [m]).map Mail.id).Pairwise (· < ·)
    rw [List.map_append, List.pairwise_append]
    refine ⟨h.ids, List.pairwise_singleton _ _, fun x hx y hy => ?_⟩
    obtain ⟨x', hx', rfl⟩ := List.mem_map.1 hx
    have e : y = m.id := by simpa using hy
    rw [e, h2]
    have := h.le x' hx'
    omega
  · rcases List.mem_append.1 hx with hx | hx
    · have := h.le x hx
      show x.id ≤ S.last + 1
      omega
    · rw [List.mem_singleton.1 hx, h2]
      exact Int.le_refl _
  · show 0 ≤ S.last + 1 ∧ S.last + 1 ≤ ((i + 1 : Nat) : Int)
    omega
  · show (S.mail ++ [m]).length ≤ i + 1
    rw [List.length_append]
    show S.mail.length + 1 ≤ i + 1
    omega
  · show 0 ≤ S.now ∧ S.now ≤ ((i + 1 : Nat) : Int)
    omega
  · rcases List.mem_append.1 hx with hx | hx
    · exact h.age x hx
    · rw [List.mem_singleton.1 hx, h3]
      exact ⟨hn.1, Int.le_refl _⟩
  · show R.prs.length ≤ i + 1
    omega
theorem agree_send {S : Net} {R : RNet} {i : Nat} (h : Agree S R i) (hi : i ≤ 100) (a b : Int) (s : ByteArray) : (sendF S a b s).1 = (rSend R a b s).1 ∧ (sendF S a b s).2.1 = (rSend R a b s).2.1 ∧ Agree (sendF S a b s).2.2 (rSend R a b s).2.2 (i + 1) := by
  have hb := h.lastb
  have ew : wrap64 (S.last + 1) = S.last + 1 := by unfold wrap64; omega
  by_cases hc : two a b = true ∧ s.size ≤ 80000 ∧ S.mail.length < 2000
  · rw [sendF, if_pos hc, rSend, if_pos ⟨hc.1, hc.2.1, by rw [h.rlen]; exact hc.2.2⟩, h.last, ew]
    exact ⟨rfl, rfl, h.put hi ⟨S.last + 1, a, b, s, S.now⟩ hc.1 rfl rfl ⟨S.last + 1, a, b, s, 0⟩ rfl⟩
  · rw [sendF, if_neg hc, rSend, if_neg (by rw [h.rlen]; exact hc)]
    exact ⟨rfl, rfl, h.more⟩
theorem agree_double {S : Net} {R : RNet} {i : Nat} (h : Agree S R i) (hi : i ≤ 100) (x : Int) (hx : (Lit.int .i64 x).wf = true) : (doubleF S x).1 = (rDouble R x).1 ∧ Agree (doubleF S x).2 (rDouble R x).2 (i + 1) := by
  have hb := h.lastb
  have ew : wrap64 (S.last + 1) = S.last + 1 := by unfold wrap64; omega
  by_cases hc : S.mail.length = 0 ∨ 2000 ≤ S.mail.length
  · rw [doubleF, if_pos hc, rDouble, if_pos (by rw [h.rlen]; exact hc)]
    exact ⟨rfl, h.more⟩
  · rw [doubleF, if_neg hc, rDouble, if_neg (by rw [h.rlen]; exact hc), h.last, ew, h.rlen]
    obtain ⟨_, hp⟩ := pick_told x hx S.mail.length (by omega)
    unfold putF
    rw [ew]
    refine ⟨rfl, h.put hi { S.mail.getD (pickN x S.mail.length) zeroMail with id := S.last + 1, age := S.now } (show two (S.mail.getD (pickN x S.mail.length) zeroMail).frm (S.mail.getD (pickN x S.mail.length) zeroMail).to_ = true from h.ends _ (mem_getD hp zeroMail)) rfl rfl _ ?_⟩
    rw [h.mail, List.getD_eq_getElem?_getD, List.getElem?_map, List.getElem?_eq_getElem hp, List.getD_eq_getElem?_getD, List.getElem?_eq_getElem hp]
    rfl
/-- Some messages are struck. -/
theorem Agree.sub {S : Net} {R : RNet} {i : Nat} (h : Agree S R i) (l : List Mail) (hl : l.Sublist S.mail) : Agree { S with mail := l } { R with mail := l.map (told S) } (i + 1) := by
  have hm : ∀ m ∈ l, m ∈ S.mail := fun m hm => hl.subset hm
  exact ⟨rfl, h.last, h.is_, fun m hx => h.ends m (hm m hx), h.ids.sublist (hl.map _), fun m hx => h.le m (hm m hx), by have := h.lastb; show 0 ≤ S.last ∧ S.last ≤ ((i + 1 : Nat) : Int); omega, by have h1 := hl.length_le; have := h.len; show l.length ≤ i + 1; omega, by have := h.now; show 0 ≤ S.now ∧ S.now ≤ ((i + 1 : Nat) : Int); omega, fun m hx => h.age m (hm m hx), by have := h.prs; show R.prs.length ≤ i + 1; omega⟩
/-- Numbers tell messages apart. -/
theorem filter_id (l : List Mail) (h : (l.map Mail.id).Pairwise (· < ·)) (j : Nat) (m : Mail) (hj : l[j]? = some m) : l.filter (fun x => x.id != m.id) = l.eraseIdx j := by
  induction l generalizing j with
  | nil => simp at hj
  | cons a l ih =>
    rw [List.map_cons, List.pairwise_cons] at h
    cases j with
    | zero =>
      have e : a = m := by simpa using hj
      subst e
      rw [List.filter_cons, if_neg (by simp), List.eraseIdx_cons_zero, List.filter_eq_self]
      intro x hx
      have := h.1 x.id (List.mem_map_of_mem hx)
      rw [bne_iff_ne]
      omega
    | succ j =>
      have hj' : l[j]? = some m := by simpa using hj
      have := h.1 m.id (List.mem_map_of_mem (List.mem_of_getElem? hj'))
      rw [List.filter_cons, if_pos (by rw [bne_iff_ne]; omega), List.eraseIdx_cons_succ, ih h.2 j hj']
theorem agree_without {S : Net} {R : RNet} {i : Nat} (h : Agree S R i) (j : Nat) (m : Mail) (hj : S.mail[j]? = some m) : Agree { S with mail := S.mail.eraseIdx j } (rWithout R (told S m).id) (i + 1) := by
  have e : (rWithout R (told S m).id) = { R with mail := (S.mail.eraseIdx j).map (told S) } := by
    unfold rWithout
    rw [h.mail, List.filter_map, ← filter_id S.mail h.ids j m hj]
    rfl
  rw [e]
  exact h.sub _ (List.eraseIdx_sublist _ _)
theorem agree_ready {S : Net} {R : RNet} {i : Nat} (h : Agree S R i) : rReady R = (S.mail.filter (opn S.P)).map (told S) := by
  unfold rReady
  rw [h.mail, List.filter_map]
  congr 1
  apply List.filter_congr
  intro m hm
  show (!rIs R m.frm m.to_) = opn S.P m
  rw [h.is_]
  unfold partF opn key
  rw [h.ends m hm, Bool.true_and]
theorem ixs_map (q : Mail → Bool) (l : List Mail) : (ixs q l).map (fun j => l.getD j zeroMail) = l.filter q := by
  induction l with
  | nil => rfl
  | cons a l ih =>
    rw [ixs, List.filter_cons]
    have e : ((ixs q l).map (· + 1)).map (fun j => (a :: l).getD j zeroMail) = l.filter q := by
      rw [List.map_map, ← ih]
      rfl
    by_cases h : q a = true
    · rw [if_pos h, if_pos h, List.map_cons, e]; rfl
    · rw [if_neg h, if_neg h, e]
theorem ready_same {S : Net} {R : RNet} {i : Nat} (h : Agree S R i) : readyM S (readyI S S.mail.length) = rReady R := by
  rw [agree_ready h, readyI_full, ← ixs_map (opn S.P) S.mail]
  unfold readyM
  rw [List.map_map, List.map_map]
  apply List.map_congr_left
  intro j _
  show told S (S.mail.getD ((j : Nat) : Int).toNat zeroMail) = _
  rw [Int.toNat_natCast]
  rfl
theorem agree_take {S : Net} {R : RNet} {i : Nat} (h : Agree S R i) (x : Int) (hx : (Lit.int .i64 x).wf = true) : (takeF S x).1 = (rTake R x).1 ∧ (takeF S x).2.1 = (rTake R x).2.1 ∧ Agree (takeF S x).2.2 (rTake R x).2.2 (i + 1) := by
  have hr := agree_ready h
  have hrl : (rReady R).length = (S.mail.filter (opn S.P)).length := by rw [hr, List.length_map]
  by_cases hc : S.mail.filter (opn S.P) = []
  · rw [takeF_no S x hc, rTake, if_pos (by rw [hrl, hc]; rfl)]
    exact ⟨rfl, rfl, h.more⟩
  · have hpos : 0 < (S.mail.filter (opn S.P)).length := by cases hl : S.mail.filter (opn S.P) with | nil => exact absurd hl hc | cons _ _ => simp
    obtain ⟨j, m, h1, h2, h3, h4, _, _⟩ := takeF_yes S x hx hpos
    have e : (rReady R).getD (pickN x (rReady R).length) zeroMail = told S m := by
      rw [hrl, hr, List.getD_eq_getElem?_getD, List.getElem?_map, h4]
      rfl
    rw [h3, rTake, if_neg (by omega), e]
    exact ⟨rfl, rfl, agree_without h j m h2⟩
theorem agree_drop {S : Net} {R : RNet} {i : Nat} (h : Agree S R i) (x : Int) (hx : (Lit.int .i64 x).wf = true) : (dropF S x).1 = (rDrop R x).1 ∧ Agree (dropF S x).2 (rDrop R x).2 (i + 1) := by
  by_cases hc : S.mail.length = 0
  · rw [dropF, if_pos hc, rDrop, if_pos (by rw [h.rlen]; exact hc)]
    exact ⟨rfl, h.more⟩
  · obtain ⟨_, hp⟩ := pick_told x hx S.mail.length (by omega)
    rw [dropF, if_neg hc, rDrop, if_neg (by rw [h.rlen]; exact hc), h.rlen]
    have e : R.mail.getD (pickN x S.mail.length) zeroMail = told S (S.mail[pickN x S.mail.length]) := by
      rw [h.mail, List.getD_eq_getElem?_getD, List.getElem?_map, List.getElem?_eq_getElem hp]
      rfl
    rw [e]
    exact ⟨rfl, agree_without h _ _ (List.getElem?_eq_getElem hp)⟩
theorem agree_lose {S : Net} {R : RNet} {i : Nat} (h : Agree S R i) (x : Int) : (loseF S x).1 = (R.mail.length : Int) - ((R.mail.filter (loseQ x)).length : Int) ∧ Agree (loseF S x).2 (rLose R x) (i + 1) := by
  have e : R.mail.filter (loseQ x) = (S.mail.filter fun m => !lostQ x m).map (told S) := by
    rw [h.mail, List.filter_map]
    congr 1
    apply List.filter_congr
    intro m _
    show loseQ x (told S m) = !lostQ x m
    unfold loseQ lostQ
    rw [Bool.not_or]
    rfl
  refine ⟨by rw [e, List.length_map, h.rlen]; rfl, ?_⟩
  unfold rLose
  rw [e]
  exact h.sub _ List.filter_sublist
theorem agree_tick {S : Net} {R : RNet} {i : Nat} (h : Agree S R i) (hi : i ≤ 100) : Agree { S with now := wrap64 (S.now + 1) } { R with mail := R.mail.map tk1 } (i + 1) := by
  have hn := h.now
  have ew : wrap64 (S.now + 1) = S.now + 1 := by unfold wrap64; omega
  rw [ew]
  refine ⟨?_, h.last, h.is_, h.ends, h.ids, h.le, by have := h.lastb; show 0 ≤ S.last ∧ S.last ≤ ((i + 1 : Nat) : Int); omega, by have := h.len; show S.mail.length ≤ i + 1; omega, by show 0 ≤ S.now + 1 ∧ S.now + 1 ≤ ((i + 1 : Nat) : Int); omega, fun m hm => ?_, by have := h.prs; show R.prs.length ≤ i + 1; omega⟩
  · show R.mail.map tk1 = S.mail.map (told { S with now := S.now + 1 })
    rw [h.mail, List.map_map]
    apply List.map_congr_left
    intro m hm
    have ha := h.age m hm
    show tk1 (told S m) = told { S with now := S.now + 1 } m
    unfold tk1 told
    show ({ m with age := wrap64 (wrap64 (S.now - m.age) + 1) } : Mail) = { m with age := wrap64 (S.now + 1 - m.age) }
    rw [show wrap64 (wrap64 (S.now - m.age) + 1) = wrap64 (S.now + 1 - m.age) by unfold wrap64; omega]
  · have ha := h.age m hm
    show 0 ≤ m.age ∧ m.age ≤ S.now + 1
    omega
theorem Agree.parts {S : Net} {R : RNet} {i : Nat} (h : Agree S R i) (P : Nat → Bool) (l : List (Int × Int)) (hl : l.length ≤ i + 1) (hp : ∀ a b, rIs { R with prs := l } a b = partF { S with P := P } a b) : Agree { S with P := P } { R with prs := l } (i + 1) :=
  ⟨h.mail, h.last, hp, h.ends, h.ids, h.le, by have := h.lastb; show 0 ≤ S.last ∧ S.last ≤ ((i + 1 : Nat) : Int); omega, by have := h.len; show S.mail.length ≤ i + 1; omega, by have := h.now; show 0 ≤ S.now ∧ S.now ≤ ((i + 1 : Nat) : Int); omega, h.age, hl⟩
theorem pair_eq (a b x y : Int) : (pairF a b == pairF x y) = true ↔ (x = a ∧ y = b) ∨ (x = b ∧ y = a) := by
  unfold pairF
  rw [beq_iff_eq]
  split <;> split <;> simp only [Prod.mk.injEq] <;> omega
theorem pair_swap (a b : Int) : pairF b a = pairF a b := by
  have h := (pair_eq b a a b).2 (.inr ⟨rfl, rfl⟩)
  exact beq_iff_eq.1 h
theorem two_swap (a b : Int) : two b a = two a b := by
  unfold two
  cases h1 : decide (0 ≤ a ∧ a < 64) <;> cases h2 : decide (0 ≤ b ∧ b < 64) <;> simp [bne_comm]
theorem any_pair (l : List (Int × Int)) (c d : Int × Int) : (l.filter fun p => !(p == c)).any (fun p => p == d) = (l.any (fun p => p == d) && !(c == d)) := by
  induction l with
  | nil => rfl
  | cons p l ih =>
    rw [List.filter_cons, List.any_cons]
    by_cases h1 : p = c
    · rw [if_neg (by rw [h1]; simp), ih, h1]
      cases (c == d) <;> simp
    · rw [if_pos (by simpa using h1), List.any_cons, ih]
      by_cases h2 : p = d
      · have h3 : (c == d) = false := by rw [beq_eq_false_iff_ne]; intro e; exact h1 (by rw [h2, e])
        rw [h2, h3]; simp
      · have h3 : (p == d) = false := by rw [beq_eq_false_iff_ne]; exact h2
        rw [h3]; simp
theorem key_eq {a b x y : Int} (h1 : two a b = true) (h2 : two x y = true) : (x.toNat * 64 + y.toNat = a.toNat * 64 + b.toNat ↔ x = a ∧ y = b) := by
  have := two_ok h1
  have := two_ok h2
  omega
theorem agree_part {S : Net} {R : RNet} {i : Nat} (h : Agree S R i) (a b : Int) : (setF S a b true).1 = (rPart R a b).1 ∧ Agree (setF S a b true).2 (rPart R a b).2 (i + 1) := by
  have his := h.is_ a b
  by_cases hc : two a b = true ∧ S.P (a.toNat * 64 + b.toNat) ≠ true
  · have hr : rIs R a b = false := by
      rw [his]
      unfold partF
      rw [hc.1, Bool.true_and]
      simpa using hc.2
    rw [setF, if_pos hc, rPart, if_pos ⟨hc.1, hr⟩]
    refine ⟨rfl, h.parts _ _ (by rw [List.length_append]; have := h.prs; simp; omega) fun x y => ?_⟩
    have e1 : rIs { R with prs := R.prs ++ [pairF a b] } x y = (rIs R x y || (pairF a b == pairF x y)) := by
      unfold rIs
      rw [List.any_append]
      simp
    rw [e1, h.is_]
    show (partF S x y || (pairF a b == pairF x y)) = (two x y && (if x.toNat * 64 + y.toNat = b.toNat * 64 + a.toNat then true else if x.toNat * 64 + y.toNat = a.toNat * 64 + b.toNat then true else S.P (x.toNat * 64 + y.toNat)))
    cases h2 : two x y with
    | false =>
      have h3 : (pairF a b == pairF x y) = false := by
        rw [← Bool.not_eq_true, pair_eq]
        rintro (⟨rfl, rfl⟩ | ⟨rfl, rfl⟩)
        · rw [hc.1] at h2; cases h2
        · rw [two_swap, hc.1] at h2; cases h2
      rw [h3]
      unfold partF
      rw [h2]
      rfl
    | true =>
      have k1 := key_eq (a := b) (b := a) (by rw [two_swap]; exact hc.1) h2
      have k2 := key_eq hc.1 h2
      unfold partF
      rw [h2, Bool.true_and, Bool.true_and]
      by_cases e2 : x = b ∧ y = a
      · rw [if_pos (k1.2 e2), (pair_eq a b x y).2 (.inr e2), Bool.or_true]
      · by_cases e3 : x = a ∧ y = b
        · rw [if_neg (fun e => e2 (k1.1 e)), if_pos (k2.2 e3), (pair_eq a b x y).2 (.inl e3), Bool.or_true]
        · have h3 : (pairF a b == pairF x y) = false := by
            rw [← Bool.not_eq_true, pair_eq]
            rintro (e | e)
            · exact e3 e
            · exact e2 e
          rw [if_neg (fun e => e2 (k1.1 e)), if_neg (fun e => e3 (k2.1 e)), h3, Bool.or_false]
  · rw [setF, if_neg hc, rPart, if_neg]
    · exact ⟨rfl, h.more⟩
    · rintro ⟨h1, h2⟩
      refine hc ⟨h1, ?_⟩
      rw [his] at h2
      unfold partF at h2
      rw [h1, Bool.true_and] at h2
      rw [h2]; simp
theorem agree_join {S : Net} {R : RNet} {i : Nat} (h : Agree S R i) (a b : Int) : (setF S a b false).1 = rIs R a b ∧ Agree (setF S a b false).2 (rJoin R a b) (i + 1) := by
  have his := h.is_ a b
  have hln : (R.prs.filter fun p => !(p == pairF a b)).length ≤ i + 1 := by have h1 := List.length_filter_le (fun p => !(p == pairF a b)) R.prs; have := h.prs; omega
  have e1 : ∀ x y, rIs (rJoin R a b) x y = (partF S x y && !(pairF a b == pairF x y)) := fun x y => by
    rw [← h.is_]
    unfold rIs rJoin
    rw [any_pair]
  by_cases hc : two a b = true ∧ S.P (a.toNat * 64 + b.toNat) ≠ false
  · have hP : S.P (a.toNat * 64 + b.toNat) = true := by simpa using hc.2
    rw [setF, if_pos hc]
    refine ⟨by rw [his]; unfold partF; rw [hc.1, hP]; rfl, h.parts _ _ hln fun x y => ?_⟩
    have e2 := e1 x y
    unfold rJoin at e2
    rw [e2]
    show (partF S x y && !(pairF a b == pairF x y)) = (two x y && (if x.toNat * 64 + y.toNat = b.toNat * 64 + a.toNat then false else if x.toNat * 64 + y.toNat = a.toNat * 64 + b.toNat then false else S.P (x.toNat * 64 + y.toNat)))
    cases h2 : two x y with
    | false =>
      unfold partF
      rw [h2]
      rfl
    | true =>
      have k1 := key_eq (a := b) (b := a) (by rw [two_swap]; exact hc.1) h2
      have k2 := key_eq hc.1 h2
      unfold partF
      rw [h2, Bool.true_and, Bool.true_and]
      by_cases e2 : x = b ∧ y = a
      · rw [if_pos (k1.2 e2), (pair_eq a b x y).2 (.inr e2)]; simp
      · by_cases e3 : x = a ∧ y = b
        · rw [if_neg (fun e => e2 (k1.1 e)), if_pos (k2.2 e3), (pair_eq a b x y).2 (.inl e3)]; simp
        · have h3 : (pairF a b == pairF x y) = false := by
            rw [← Bool.not_eq_true, pair_eq]
            rintro (e | e)
            · exact e3 e
            · exact e2 e
          rw [if_neg (fun e => e2 (k1.1 e)), if_neg (fun e => e3 (k2.1 e)), h3]; simp
  · have hp : partF S a b = false := by
      unfold partF
      cases h1 : two a b with
      | false => rfl
      | true => rw [Bool.true_and]; cases h2 : S.P (a.toNat * 64 + b.toNat) with | false => rfl | true => exact absurd ⟨h1, by rw [h2]; simp⟩ hc
    rw [setF, if_neg hc]
    refine ⟨by rw [his, hp], ?_⟩
    have hS : ({ S with P := S.P } : Net) = S := rfl
    have := h.parts S.P (R.prs.filter fun p => !(p == pairF a b)) hln fun x y => by
      have e2 := e1 x y
      unfold rJoin at e2
      rw [e2, hS]
      cases h3 : (pairF a b == pairF x y) with
      | false => simp
      | true =>
        have h4 : partF S x y = false := by
          rw [← h.is_]
          unfold rIs
          rw [← beq_iff_eq.1 h3]
          exact his.trans hp
        rw [h4]; rfl
    exact this
theorem agree_heal {S : Net} {R : RNet} {i : Nat} (h : Agree S R i) : Agree (healF S) { R with prs := [] } (i + 1) :=
  h.parts _ _ (Nat.zero_le _) fun a b => by
    show false = (two a b && false)
    rw [Bool.and_false]
theorem minI_facts (l : List Mail) (i : Nat) (hi : i < l.length) (hr : ∀ m ∈ l, 0 ≤ m.age ∧ m.age ≤ 1000) : minI l i ∈ l ∧ ∀ j, j ≤ i → (minI l i).age ≤ (l.getD j zeroMail).age := by
  induction i with
  | zero =>
    refine ⟨mem_getD hi zeroMail, fun j hj => ?_⟩
    obtain rfl : j = 0 := by omega
    exact Int.le_refl _
  | succ i ih =>
    obtain ⟨h1, h2⟩ := ih (by omega)
    have ha := hr _ h1
    have hb := hr _ (mem_getD hi zeroMail)
    rw [minI]
    have ew : wrap64 ((l.getD (i + 1) zeroMail).age - (minI l i).age) = (l.getD (i + 1) zeroMail).age - (minI l i).age := by unfold wrap64; omega
    rw [ew]
    by_cases hc : (l.getD (i + 1) zeroMail).age - (minI l i).age < 0
    · rw [if_pos hc]
      refine ⟨mem_getD hi zeroMail, fun j hj => ?_⟩
      by_cases e : j = i + 1
      · rw [e]; exact Int.le_refl _
      · have := h2 j (by omega); omega
    · rw [if_neg hc]
      refine ⟨h1, fun j hj => ?_⟩
      by_cases e : j = i + 1
      · rw [e]; omega
      · exact h2 j (by omega)
theorem rOld_facts (l : List Mail) (i : Nat) : 0 ≤ rOldI l i ∧ (∀ j, j < i → (l.getD j zeroMail).age ≤ rOldI l i) ∧ (rOldI l i = 0 ∨ ∃ j, j < i ∧ rOldI l i = (l.getD j zeroMail).age) := by
  induction i with
  | zero => exact ⟨Int.le_refl _, fun j hj => absurd hj (Nat.not_lt_zero _), .inl rfl⟩
  | succ i ih =>
    obtain ⟨h1, h2, h3⟩ := ih
    rw [rOldI]
    by_cases hc : rOldI l i < (l.getD i zeroMail).age
    · rw [if_pos hc]
      refine ⟨by omega, fun j hj => ?_, .inr ⟨i, by omega, rfl⟩⟩
      by_cases e : j = i
      · rw [e]; exact Int.le_refl _
      · have := h2 j (by omega); omega
    · rw [if_neg hc]
      refine ⟨h1, fun j hj => ?_, ?_⟩
      · by_cases e : j = i
        · rw [e]; omega
        · exact h2 j (by omega)
      · rcases h3 with h3 | ⟨j, hj, h3⟩
        · exact .inl h3
        · exact .inr ⟨j, by omega, h3⟩
def oldF (S : Net) : Int := if S.mail.length = 0 then 0 else (told S (minI S.mail (S.mail.length - 1))).age
theorem old_same {S : Net} {R : RNet} {i : Nat} (h : Agree S R i) (hi : i ≤ 200) : oldF S = rOldI R.mail R.mail.length := by
  have hn := h.now
  rw [h.rlen]
  unfold oldF
  by_cases h0 : S.mail.length = 0
  · rw [if_pos h0, h0]; rfl
  · rw [if_neg h0]
    have hr : ∀ m ∈ S.mail, 0 ≤ m.age ∧ m.age ≤ 1000 := fun m hm => by have := h.age m hm; omega
    obtain ⟨h1, h2⟩ := minI_facts S.mail (S.mail.length - 1) (by omega) hr
    obtain ⟨k1, k2, k3⟩ := rOld_facts R.mail S.mail.length
    have ht : ∀ j, j < S.mail.length → (R.mail.getD j zeroMail).age = S.now - (S.mail.getD j zeroMail).age := fun j hj => by
      have ha := h.age _ (mem_getD hj zeroMail)
      rw [← told_age (S := S) ha.1 ha.2 (by omega), h.mail, List.getD_eq_getElem?_getD, List.getElem?_map, List.getElem?_eq_getElem hj, List.getD_eq_getElem?_getD, List.getElem?_eq_getElem hj]
      rfl
    have hm := h.age _ h1
    rw [told_age hm.1 hm.2 (by omega)]
    obtain ⟨j, hj, he⟩ := List.mem_iff_getElem.1 h1
    have hje : S.mail.getD j zeroMail = minI S.mail (S.mail.length - 1) := by rw [List.getD_eq_getElem?_getD, List.getElem?_eq_getElem hj]; exact he
    have h5 := k2 j hj
    rw [ht j hj, hje] at h5
    rcases k3 with k3 | ⟨j', hj', k3⟩
    · omega
    · rw [ht j' hj'] at k3
      have := h2 j' (by omega)
      omega
end Go.Proofs.Ytnggcegfieeonaa.Nx
/- What is proved: the two networks side by side in memory. No condition but what each theorem says. -/
namespace Go.Proofs.Ytnggcegfieeonaa.Nx
open Go.RowKit Go.Proofs.YtnggcegfieeonaaW.PrintWords Go.Proofs.YtnggcegfieeonaaW.PrintLast Go.Proofs.YtnggcegfieeonaaW.PrintMore
set_option linter.unusedVariables false
set_option linter.unusedSimpArgs false
structure Both (B : Nat) (w : World) (g : Nat) (v : Value) (S : Net) (r : Nat) (vr ur : Value) (R : RNet) : Prop where
  net : NetAt B w g v S
  ref : RAt B w r vr ur R
  ne : NeRow v vr
theorem types_ne {w : World} {a b : Nat} {cs cs' : Array Value} {t t' : TypeId} (h : w.heap[a]? = some (.cells cs t (0, 0))) (h' : w.heap[b]? = some (.cells cs' t' (0, 0))) (hne : t ≠ t') : a ≠ b := by
  rintro rfl
  rw [h] at h'
  injection h' with h'
  injection h' with _ ht
  exact hne ht
section
variable {B : Nat} {w w' : World} {g r : Nat} {v v' vr vr' ur ur' : Value} {S S' : Net} {R R' : RNet}
theorem Both.gr (h : Both B w g v S r vr ur R) : g ≠ r := by
  obtain ⟨cs, hb, _⟩ := h.net.row
  exact types_ne hb h.ref.row (by decide)
/-- A block of another type than all of these. -/
theorem Both.away (h : Both B w g v S r vr ur R) {gb t : Nat} {cs : Array Value} (hb : w.heap[gb]? = some (.cells cs t (0, 0))) (ht : t ≠ 55 ∧ t ≠ 29 ∧ t ≠ 49 ∧ t ≠ 36) : gb ≠ g ∧ some gb ≠ v.ownBlock ∧ gb ≠ r ∧ some gb ≠ vr.ownBlock ∧ some gb ≠ ur.ownBlock := by
  obtain ⟨cs2, hb2, _⟩ := h.net.row
  refine ⟨types_ne hb hb2 ht.1, fun e => ?_, types_ne hb h.ref.row ht.2.2.1, Kd.R_ne h.ref.own hb (Ne.symm ht.2.1), Kd.R_ne h.ref.pown hb (Ne.symm ht.2.2.2)⟩
  obtain ⟨cells, hc⟩ := own_typed h.net.own gb e.symm
  exact types_ne hb hc ht.2.1 rfl
theorem Both.below (h : Both B w g v S r vr ur R) (hb : Below w.heap.size w w') : Both B w' g v S r vr ur R := ⟨h.net.below hb, h.ref.below hb, h.ne⟩
theorem Both.drewN (h : Both B w g v S r vr ur R) (n : Nat) : Both B (w.drewN n) g v S r vr ur R := ⟨h.net.drewN n, h.ref.drewN n, h.ne⟩
theorem Both.by_net (h : Both B w g v S r vr ur R) (hn : NetAt B w' g v' S') (hk : Kp B w g v w' v') : Both B w' g v' S' r vr ur R := by
  obtain ⟨cs, hb, _⟩ := h.net.row
  have hvne : ∀ k (cells : Array Value) (t : TypeId), w.heap[k]? = some (.cells cells t (0, 0)) → t ≠ 29 → some k ≠ v.ownBlock := fun k cells t hc ht e => by
    obtain ⟨cells2, hc2⟩ := own_typed h.net.own k e.symm
    exact types_ne hc hc2 ht rfl
  refine ⟨hn, h.ref.keep (hk.keep.2 r h.ref.lt (Ne.symm h.gr) (hvne r _ _ h.ref.row (by decide))) (fun b hvb => ?_) (fun b hub => ?_), fun k hk1 hk2 => ?_⟩
  · obtain ⟨cells, hc⟩ := Kd.R_typed h.ref.own b hvb
    exact hk.keep.2 b (blk_lt hc) (types_ne hc hb (by decide)) (fun e => h.ne b e.symm hvb)
  · obtain ⟨cells, hc⟩ := Kd.R_typed h.ref.pown b hub
    exact hk.keep.2 b (blk_lt hc) (types_ne hc hb (by decide)) (hvne b _ _ hc (by decide))
  · rcases hk.own with e | ⟨b, e, hle⟩
    · exact h.ne k (by rw [← e]; exact hk1) hk2
    · rw [e] at hk1
      injection hk1 with hk1
      have := Kd.R_lt h.ref.own k hk2
      omega
theorem Both.by_ref (h : Both B w g v S r vr ur R) (hn : RAt B w' r vr' ur' R') (hk : Kr B w r vr ur w' vr') : Both B w' g v S r vr' ur' R' := by
  obtain ⟨cs, hb, _⟩ := h.net.row
  refine ⟨h.net.keep hk.below.size (hk.keep g h.net.lt h.gr (Kd.R_ne h.ref.own hb (by decide)) (Kd.R_ne h.ref.pown hb (by decide))) (fun b hvb => ?_), hn, fun k hk1 hk2 => ?_⟩
  · obtain ⟨cells, hc⟩ := own_typed h.net.own b hvb
    exact hk.keep b (blk_lt hc) (types_ne hc h.ref.row (by decide)) (fun e => h.ne b hvb e.symm) (Kd.R_ne h.ref.pown hc (by decide))
  · rcases hk.own k hk2 with e | e
    · exact h.ne k hk1 e
    · have := (h.net.own_lt k hk1).2
      omega
theorem Both.box_net (h : Both B w g v S r vr ur R) (hk : Kp B w g v w' v') {gb : Nat} {cs : Array Value} (hb : w.heap[gb]? = some (.cells cs 38 (0, 0))) : w'.heap[gb]? = some (.cells cs 38 (0, 0)) := by
  obtain ⟨h1, h2, _⟩ := h.away hb (by decide)
  exact (hk.keep.2 gb (blk_lt hb) h1 h2).trans hb
theorem Both.box_ref (h : Both B w g v S r vr ur R) (hk : Kr B w r vr ur w' vr') {gb : Nat} {cs : Array Value} (hb : w.heap[gb]? = some (.cells cs 38 (0, 0))) : w'.heap[gb]? = some (.cells cs 38 (0, 0)) := by
  obtain ⟨_, _, h1, h2, h3⟩ := h.away hb (by decide)
  exact (hk.keep gb (blk_lt hb) h1 h2 h3).trans hb
end
/-- What a round has when its call is done. -/
structure Half (B : Nat) (w0 w : World) (g r gb i : Nat) (o : OpR) : Prop where
  mk :: (out : ∃ S R v vr ur, Both B w g v S r vr ur R ∧ Agree S R (i + 1) ∧ w.heap[gb]? = some (.cells o.cells.toArray 38 (0, 0)) ∧ Below B w0 w)
theorem zero49 (w : World) : (zeroValue 49).run Try.prog w = .ok (.agg #[.slice none 0 0, .int .i64 0, .slice none 0 0]) w := by kernel_rfl
theorem oldest_any {B : Nat} {w : World} {g : Nat} {v : Value} {S : Net} (h : NetAt B w g v S) (hlen : S.mail.length < 1000000) :
    Calls Try.prog 22 #[.pointer (some ⟨g, 0, none⟩)] w fun e w' => e = .returned (.int .i64 (oldF S)) ∧ Below w.heap.size w w' := by
  unfold oldF
  by_cases h0 : S.mail.length = 0
  · rw [if_pos h0]
    exact (oldest_none h h0).mono fun e w' hh => ⟨hh.1, by rw [hh.2]; exact Below.refl _ _⟩
  · rw [if_neg h0]
    exact oldest_calls h (by omega) hlen
end Go.Proofs.Ytnggcegfieeonaa.Nx
