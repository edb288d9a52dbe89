/- What is proved: the plain facts of the statement NetOnce. No condition but what each theorem says. -/
import Derived.Test.YtnggcegfieeonaaNordp
namespace Go.Proofs.Ytnggcegfieeonaa.Nx
open Go.RowKit Go.Proofs.YtnggcegfieeonaaW.PrintWords Go.Proofs.YtnggcegfieeonaaW.PrintLast Go.Proofs.YtnggcegfieeonaaW.PrintMore
set_option linter.unusedVariables false
set_option linter.unusedSimpArgs false
abbrev Cls := Int × Int × ByteArray
def cls (m : Mail) : Cls := (m.frm, m.to_, m.body)
def clsO (o : OpR) : Cls := (o.a, o.b, o.body)
/-- How many of a class wait. -/
def nOf (l : List Mail) (t : Cls) : Nat := l.countP fun m => decide (cls m = t)
/-- How many of a class are owed. -/
def cnt : List OpR → List Int → Cls → Int
  | o :: s, x :: ws, t => (if clsO o = t then x else 0) + cnt s ws t
  | _, _, _ => 0
theorem cnt_snoc (s : List OpR) (ws : List Int) (h : s.length = ws.length) (o : OpR) (x : Int) (t : Cls) : cnt (s ++ [o]) (ws ++ [x]) t = cnt s ws t + if clsO o = t then x else 0 := by
  induction s generalizing ws with
  | nil =>
    cases ws with
    | nil => simp [cnt]
    | cons => simp at h
  | cons a s ih =>
    cases ws with
    | nil => simp at h
    | cons y ws =>
      rw [List.cons_append, List.cons_append, cnt, cnt, ih ws (by simpa using h)]
      omega
theorem cnt_set (s : List OpR) (ws : List Int) (k : Nat) (hk : k < ws.length) (hs : k < s.length) (t : Cls) : cnt s (ws.set k (ws.getD k 0 - 1)) t = cnt s ws t - if clsO (s.getD k zeroOp) = t then 1 else 0 := by
  induction s generalizing ws k with
  | nil => simp at hs
  | cons a s ih =>
    cases ws with
    | nil => simp at hk
    | cons y ws =>
      cases k with
      | zero =>
        simp only [List.set_cons_zero, List.getD_cons_zero, cnt]
        split <;> omega
      | succ k =>
        simp only [List.set_cons_succ, List.getD_cons_succ, cnt]
        rw [ih ws k (by simpa using hk) (by simpa using hs)]
        omega
theorem cnt_nonneg (s : List OpR) (ws : List Int) (h : ∀ x ∈ ws, 0 ≤ x) (t : Cls) : 0 ≤ cnt s ws t := by
  induction s generalizing ws with
  | nil => simp [cnt]
  | cons a s ih =>
    cases ws with
    | nil => simp [cnt]
    | cons y ws =>
      rw [cnt]
      have h1 := ih ws fun x hx => h x (List.mem_cons_of_mem _ hx)
      have h2 := h y List.mem_cons_self
      split <;> omega
theorem cnt_pos (s : List OpR) (ws : List Int) (h : ∀ x ∈ ws, 0 ≤ x) (t : Cls) (hp : 0 < cnt s ws t) : ∃ k, k < s.length ∧ k < ws.length ∧ clsO (s.getD k zeroOp) = t ∧ 0 < ws.getD k 0 := by
  induction s generalizing ws with
  | nil => simp [cnt] at hp
  | cons a s ih =>
    cases ws with
    | nil => simp [cnt] at hp
    | cons y ws =>
      rw [cnt] at hp
      by_cases h1 : 0 < cnt s ws t
      · obtain ⟨k, k1, k2, k3, k4⟩ := ih ws (fun x hx => h x (List.mem_cons_of_mem _ hx)) h1
        exact ⟨k + 1, by simpa using k1, by simpa using k2, by simpa using k3, by simpa using k4⟩
      · by_cases h2 : clsO a = t
        · rw [if_pos h2] at hp
          exact ⟨0, by simp, by simp, by simpa using h2, by simp; omega⟩
        · rw [if_neg h2] at hp
          omega
theorem cnt_all (s : List OpR) (ws : List Int) (hl : s.length = ws.length) (h : ∀ x ∈ ws, 0 ≤ x) (hz : ∀ t, cnt s ws t = 0) (k : Nat) (hk : k < ws.length) : ws.getD k 0 = 0 := by
  have key : ∀ (s : List OpR) (ws : List Int), s.length = ws.length → (∀ x ∈ ws, 0 ≤ x) → ∀ k, k < ws.length → ws.getD k 0 ≤ cnt s ws (clsO (s.getD k zeroOp)) := by
    intro s
    induction s with
    | nil => intro ws hl _ k hk; rw [← hl] at hk; simp at hk
    | cons a s ih =>
      intro ws hl h k hk
      cases ws with
      | nil => simp at hk
      | cons y ws =>
        have hn : ∀ x ∈ ws, 0 ≤ x := fun x hx => h x (List.mem_cons_of_mem _ hx)
        cases k with
        | zero =>
          simp only [List.getD_cons_zero, cnt, if_pos]
          have := cnt_nonneg s ws hn (clsO a)
          omega
        | succ k =>
          simp only [List.getD_cons_succ, cnt]
          have h1 := ih ws (by simpa using hl) hn k (by simpa using hk)
          have h2 := h y List.mem_cons_self
          split <;> omega
  have h1 := key s ws hl h k hk
  rw [hz] at h1
  have h2 : 0 ≤ ws.getD k 0 := by
    rw [List.getD_eq_getElem?_getD, List.getElem?_eq_getElem hk]
    exact h _ (List.getElem_mem hk)
  omega
theorem nOf_snoc (l : List Mail) (m : Mail) (t : Cls) : nOf (l ++ [m]) t = nOf l t + if cls m = t then 1 else 0 := by
  unfold nOf
  rw [List.countP_append]
  by_cases h : cls m = t <;> simp [h]
theorem nOf_erase (l : List Mail) (j : Nat) (m : Mail) (h : l[j]? = some m) (t : Cls) : nOf l t = nOf (l.eraseIdx j) t + if cls m = t then 1 else 0 := by
  unfold nOf
  induction l generalizing j with
  | nil => simp at h
  | cons a l ih =>
    cases j with
    | zero =>
      have e : a = m := by simpa using h
      rw [e, List.eraseIdx_cons_zero, List.countP_cons]
      by_cases h2 : cls m = t <;> simp [h2]
    | succ j =>
      rw [List.eraseIdx_cons_succ, List.countP_cons, List.countP_cons, ih j (by simpa using h)]
      omega
theorem nOf_le (l : List Mail) (t : Cls) : nOf l t ≤ l.length := List.countP_le_length
structure Once where
  net : Net
  sent : List OpR
  owed : List Int
def onceOp (o : OpR) : OpR := ⟨o.kind, and3 o.a, and3 o.b, cutTo o.body 60⟩
def onceStep (st : Once) (o : OpR) : Once :=
  if and3 o.a = and3 o.b then st
  else if Int.tmod o.kind 4 = 0 then ⟨(doubleF (sendF st.net (and3 o.a) (and3 o.b) (cutTo o.body 60)).2.2 (((sendF st.net (and3 o.a) (and3 o.b) (cutTo o.body 60)).2.2.mail.length : Int) - 1)).2, st.sent ++ [onceOp o], st.owed ++ [2]⟩
  else ⟨(sendF st.net (and3 o.a) (and3 o.b) (cutTo o.body 60)).2.2, st.sent ++ [onceOp o], st.owed ++ [1]⟩
def onceS (a b : Int) (l : List OpR) : Nat → Once
  | 0 => ⟨(setF emptyNet a b true).2, [], []⟩
  | i + 1 => onceStep (onceS a b l i) (l.getD i zeroOp)
structure OnceOk (a b : Int) (st : Once) (i : Nat) : Prop where
  len : st.net.mail.length ≤ 2 * i
  good : st.net.Good
  P : st.net.P = (setF emptyNet a b true).2.P
  last : st.net.last = (st.net.mail.length : Int)
  olen : st.sent.length = st.owed.length
  slen : st.sent.length ≤ i
  owed : ∀ x ∈ st.owed, 0 ≤ x ∧ x ≤ 2
  count : ∀ t, (nOf st.net.mail t : Int) = cnt st.sent st.owed t
theorem last_told (n : Nat) (h0 : 0 < n) (h1 : n < 1000) : pickN ((n : Int) - 1) n = n - 1 := by
  unfold pickN
  rw [if_neg (by omega), Int.tmod_eq_emod_of_nonneg (by omega), Int.emod_eq_of_lt (by omega) (by omega)]
  omega
theorem double_last (S : Net) (h0 : 0 < S.mail.length) (h1 : S.mail.length < 1000) : doubleF S ((S.mail.length : Int) - 1) = (true, putF S (S.mail.getD (S.mail.length - 1) zeroMail)) := by
  rw [doubleF, if_neg (by omega), last_told _ h0 h1]
theorem once_ok (a b : Int) (ha : 0 ≤ a ∧ a < 4) (hb : 0 ≤ b ∧ b < 4) (l : List OpR) (i : Nat) (hi : i ≤ 30) : OnceOk a b (onceS a b l i) i := by
  induction i with
  | zero =>
    have h0 : (setF emptyNet a b true).2.mail = [] := by unfold setF; split <;> rfl
    have h1 : (setF emptyNet a b true).2.last = 0 := by unfold setF; split <;> rfl
    refine ⟨by show (setF emptyNet a b true).2.mail.length ≤ 0; rw [h0]; exact Nat.le_refl _, fun m hm => ?_, rfl, ?_, rfl, Nat.le_refl _, fun x hx => (by cases hx), fun t => ?_⟩
    · have : m ∈ (setF emptyNet a b true).2.mail := hm
      rw [h0] at this; cases this
    · show (setF emptyNet a b true).2.last = ((setF emptyNet a b true).2.mail.length : Int)
      rw [h0, h1]; rfl
    · show (nOf (setF emptyNet a b true).2.mail t : Int) = cnt [] [] t
      rw [h0]; rfl
  | succ i ih =>
    have h := ih (by omega)
    rw [onceS]
    generalize onceS a b l i = st at h
    generalize l.getD i zeroOp = o
    have hx := and3_range o.a
    have hy := and3_range o.b
    unfold onceStep
    by_cases hxy : and3 o.a = and3 o.b
    · rw [if_pos hxy]
      exact ⟨by have := h.len; omega, h.good, h.P, h.last, h.olen, by have := h.slen; omega, h.owed, h.count⟩
    · rw [if_neg hxy]
      have hs := sendF_two st.net (and3 o.a) (and3 o.b) (cutTo o.body 60) hx hy (cutTo_size _ _) (by have := h.len; omega)
      rw [if_neg hxy] at hs
      have hlen := h.len
      have hlast := h.last
      have hslen := h.slen
      have ew : wrap64 (st.net.last + 1) = st.net.last + 1 := by unfold wrap64; omega
      rw [ew] at hs
      rw [hs]
      dsimp only
      generalize hm : (⟨st.net.last + 1, and3 o.a, and3 o.b, cutTo o.body 60, st.net.now⟩ : Mail) = m
      have hcl : cls m = clsO (onceOp o) := by rw [← hm]; rfl
      have hgd : m.ok := by rw [← hm]; exact ⟨hx.1, by have := hx.2; show and3 o.a < 64; omega, hy.1, by have := hy.2; show and3 o.b < 64; omega⟩
      have hl2 : (st.net.mail ++ [m]).length = st.net.mail.length + 1 := by rw [List.length_append]; rfl
      have hsl : ∀ x : Int, (st.sent ++ [onceOp o]).length = (st.owed ++ [x]).length := fun x => by rw [List.length_append, List.length_append, h.olen]; rfl
      have hsl2 : (st.sent ++ [onceOp o]).length ≤ i + 1 := by rw [List.length_append]; simp; omega
      have hc1 : ∀ t, (nOf (st.net.mail ++ [m]) t : Int) = cnt st.sent st.owed t + if clsO (onceOp o) = t then 1 else 0 := fun t => by
        rw [nOf_snoc, ← h.count, ← hcl]
        by_cases h2 : cls m = t <;> simp [h2]
      have how : ∀ x : Int, 0 ≤ x ∧ x ≤ 2 → ∀ y ∈ st.owed ++ [x], 0 ≤ y ∧ y ≤ 2 := fun x hx y hy => by
        rcases List.mem_append.1 hy with hy | hy
        · exact h.owed y hy
        · rw [List.mem_singleton.1 hy]; exact hx
      by_cases hk : Int.tmod o.kind 4 = 0
      · rw [if_pos hk]
        have hd := double_last { st.net with mail := st.net.mail ++ [m], last := st.net.last + 1 } (by show 0 < (st.net.mail ++ [m]).length; omega) (by show (st.net.mail ++ [m]).length < 1000; omega)
        have hd' : doubleF { st.net with mail := st.net.mail ++ [m], last := st.net.last + 1 } (((st.net.mail ++ [m]).length : Int) - 1) = _ := hd
        rw [hd']
        have hg : (st.net.mail ++ [m]).getD ((st.net.mail ++ [m]).length - 1) zeroMail = m := by
          rw [hl2, List.getD_eq_getElem?_getD, List.getElem?_append_right (by omega)]
          simp
        unfold putF
        dsimp only
        rw [hg]
        have ew2 : wrap64 (st.net.last + 1 + 1) = st.net.last + 1 + 1 := by unfold wrap64; omega
        rw [ew2]
        generalize hm2 : ({ m with id := st.net.last + 1 + 1, age := st.net.now } : Mail) = m2
        have hcl2 : cls m2 = cls m := by rw [← hm2]; rfl
        have hgd2 : m2.ok := by rw [← hm2]; exact hgd
        have hl3 : (st.net.mail ++ [m] ++ [m2]).length = st.net.mail.length + 2 := by rw [List.length_append, hl2]; rfl
        refine ⟨by show (st.net.mail ++ [m] ++ [m2]).length ≤ _; omega, good_put (S := { st.net with mail := st.net.mail ++ [m] }) (good_put h.good _ hgd st.net.last) _ hgd2 _, h.P, by show st.net.last + 1 + 1 = ((st.net.mail ++ [m] ++ [m2]).length : Int); omega, hsl 2, hsl2, how 2 ⟨by omega, by omega⟩, fun t => ?_⟩
        show (nOf (st.net.mail ++ [m] ++ [m2]) t : Int) = _
        rw [nOf_snoc, cnt_snoc _ _ h.olen, hcl2]
        have := hc1 t
        rw [hcl]
        by_cases h2 : clsO (onceOp o) = t
        · rw [if_pos h2, if_pos h2]; rw [if_pos h2] at this; omega
        · rw [if_neg h2, if_neg h2]; rw [if_neg h2] at this; omega
      · rw [if_neg hk]
        refine ⟨by show (st.net.mail ++ [m]).length ≤ _; omega, good_put h.good _ hgd _, h.P, by show st.net.last + 1 = ((st.net.mail ++ [m]).length : Int); omega, hsl 1, hsl2, how 1 ⟨by omega, by omega⟩, fun t => ?_⟩
        rw [cnt_snoc _ _ h.olen]
        exact hc1 t
/-- Is this call the one whose message came? -/
def hit (x : Int) (o : OpR) (m : Mail) : Bool := decide (0 < x) && (o.a == m.frm && (o.b == m.to_ && o.body.toList == m.body.toList))
theorem hit_iff (x : Int) (o : OpR) (m : Mail) : hit x o m = true ↔ 0 < x ∧ clsO o = cls m := by
  unfold hit clsO cls
  rw [Bool.and_eq_true, Bool.and_eq_true, Bool.and_eq_true, decide_eq_true_iff, beq_iff_eq, beq_iff_eq, beq_iff_eq]
  constructor
  · rintro ⟨h1, h2, h3, h4⟩
    rw [ByteArray.toList_eq, ByteArray.toList_eq] at h4
    exact ⟨h1, by rw [h2, h3, WideShapes.bytes_inj h4]⟩
  · rintro ⟨h1, h2⟩
    injection h2 with h2 h3
    injection h3 with h3 h4
    exact ⟨h1, h2, h3, by rw [h4]⟩
/-- What the search through the first k leaves. -/
def scanF (sent : List OpR) (owed : List Int) (m : Mail) : Nat → Bool × List Int
  | 0 => (false, owed)
  | k + 1 => if (!(scanF sent owed m k).1 && hit ((scanF sent owed m k).2.getD k 0) (sent.getD k zeroOp) m) = true then (true, (scanF sent owed m k).2.set k ((scanF sent owed m k).2.getD k 0 - 1)) else scanF sent owed m k
theorem scan_facts (sent : List OpR) (owed : List Int) (m : Mail) (k : Nat) :
    ((scanF sent owed m k).1 = false ∧ (scanF sent owed m k).2 = owed ∧ ∀ j, j < k → hit (owed.getD j 0) (sent.getD j zeroOp) m = false) ∨
    ((scanF sent owed m k).1 = true ∧ ∃ j, j < k ∧ hit (owed.getD j 0) (sent.getD j zeroOp) m = true ∧ (scanF sent owed m k).2 = owed.set j (owed.getD j 0 - 1)) := by
  induction k with
  | zero => exact .inl ⟨rfl, rfl, fun j hj => absurd hj (Nat.not_lt_zero _)⟩
  | succ k ih =>
    rw [scanF]
    rcases ih with ⟨h1, h2, h3⟩ | ⟨h1, j, h2, h3, h4⟩
    · rw [h1, h2]
      by_cases hh : hit (owed.getD k 0) (sent.getD k zeroOp) m = true
      · rw [if_pos (by rw [hh]; rfl)]
        exact .inr ⟨rfl, k, by omega, hh, rfl⟩
      · rw [Bool.not_eq_true] at hh
        rw [if_neg (by rw [hh]; simp)]
        refine .inl ⟨h1, h2, fun j hj => ?_⟩
        by_cases e : j = k
        · rw [e]; exact hh
        · exact h3 j (by omega)
    · rw [if_neg (by rw [h1]; simp)]
      exact .inr ⟨h1, j, by omega, h3, h4⟩
/-- The state between two takes. -/
structure TakeOk (a b : Int) (sent : List OpR) (total : Nat) (S : Net) (owed : List Int) (healed : Bool) (i : Nat) : Prop where
  good : S.Good
  small : total ≤ 60
  olen : sent.length = owed.length
  slen : sent.length ≤ 30
  rng : ∀ x ∈ owed, 0 ≤ x ∧ x ≤ 2
  count : ∀ t, (nOf S.mail t : Int) = cnt sent owed t
  P : S.P = if healed = true then (fun _ => false) else (setF emptyNet a b true).2.P
  turns : i + S.mail.length = total + if healed = true then 1 else 0
theorem take_start {a b : Int} {st : Once} {i : Nat} (h : OnceOk a b st i) (hi : i ≤ 30) : TakeOk a b st.sent st.net.mail.length st.net st.owed false 0 :=
  ⟨h.good, by have := h.len; omega, h.olen, by have := h.slen; omega, h.owed, h.count, h.P, by simp⟩
section
variable {a b : Int} {sent : List OpR} {total : Nat} {S : Net} {owed : List Int} {healed : Bool} {i : Nat} (h : TakeOk a b sent total S owed healed i)
include h
theorem take_less : i < total + 2 := by
  have := h.turns
  split at this <;> omega
theorem take_len : S.mail.length ≤ 61 := by
  have h1 := h.small
  have h2 := h.turns
  split at h2 <;> omega
/-- Nothing may come, and healing is due. -/
theorem take_heal (hh : healed = false) : TakeOk a b sent total (healF S) owed true (i + 1) := by
  subst hh
  refine ⟨h.good, h.small, h.olen, h.slen, h.rng, h.count, rfl, ?_⟩
  have h2 := h.turns
  rw [if_neg (by simp)] at h2
  rw [if_pos rfl]
  show i + 1 + S.mail.length = total + 1
  omega
/-- One has come. -/
theorem take_came (j : Nat) (m : Mail) (hj : S.mail[j]? = some m) : (scanF sent owed m sent.length).1 = true ∧ TakeOk a b sent total { S with mail := S.mail.eraseIdx j } (scanF sent owed m sent.length).2 healed (i + 1) := by
  have hlt := (List.getElem?_eq_some_iff.1 hj).1
  have hc := h.count (cls m)
  have hpos : 0 < nOf S.mail (cls m) := by rw [nOf_erase S.mail j m hj, if_pos rfl]; omega
  obtain ⟨k, k1, k2, k3, k4⟩ := cnt_pos sent owed (fun x hx => (h.rng x hx).1) (cls m) (by omega)
  rcases scan_facts sent owed m sent.length with ⟨_, _, h3⟩ | ⟨h1, k', h2, h3, h4⟩
  · have := (hit_iff (owed.getD k 0) (sent.getD k zeroOp) m).2 ⟨k4, k3⟩
    rw [h3 k k1] at this
    cases this
  · refine ⟨h1, ?_⟩
    rw [h4]
    have hk' : k' < owed.length := by have := h.olen; omega
    obtain ⟨p1, p2⟩ := (hit_iff _ _ _).1 h3
    refine ⟨good_erase h.good j, h.small, by rw [List.length_set]; exact h.olen, h.slen, fun x hx => ?_, fun t => ?_, h.P, ?_⟩
    · rcases List.mem_or_eq_of_mem_set hx with hx | hx
      · exact h.rng x hx
      · have h5 : owed.getD k' 0 ∈ owed := by rw [List.getD_eq_getElem?_getD, List.getElem?_eq_getElem hk']; exact List.getElem_mem hk'
        have := h.rng _ h5
        omega
    · show (nOf (S.mail.eraseIdx j) t : Int) = _
      have e1 := nOf_erase S.mail j m hj t
      have e2 := cnt_set sent owed k' hk' h2 t
      have e3 := h.count t
      rw [e2, p2, ← e3, e1]
      by_cases h6 : cls m = t <;> simp [h6]
    · show i + 1 + (S.mail.eraseIdx j).length = _
      rw [List.length_eraseIdx, if_pos hlt]
      have := h.turns
      omega
/-- Nothing waits any more. -/
theorem take_done (hm : S.mail = []) (k : Nat) (hk : k < owed.length) : owed.getD k 0 = 0 :=
  cnt_all sent owed h.olen (fun x hx => (h.rng x hx).1) (fun t => by rw [← h.count t, hm]; rfl) k hk
end
end Go.Proofs.Ytnggcegfieeonaa.Nx
