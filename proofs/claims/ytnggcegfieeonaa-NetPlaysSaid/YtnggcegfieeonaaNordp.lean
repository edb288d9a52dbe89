/- What is proved: the plain facts of the statement NetOrder. No condition but what each theorem says. -/
import Derived.Test.YtnggcegfieeonaaNin
import Derived.Laws.BitsLemmas
import Derived.Test.YtnggcegfieeonaaPNetPlaysx1
namespace Go.Proofs.Ytnggcegfieeonaa.Nx
open Go.RowKit Go.Proofs.YtnggcegfieeonaaW.PrintWords Go.Proofs.YtnggcegfieeonaaW.PrintLast Go.Proofs.YtnggcegfieeonaaW.PrintMore
set_option linter.unusedVariables false
set_option linter.unusedSimpArgs false
/-- One of four ends. -/
def and3 (x : Int) : Int := bits .and .i64 x 3
theorem and3_range (x : Int) : 0 ≤ and3 x ∧ and3 x < 4 := by
  unfold and3 bits
  simp only []
  have h : (BitVec.ofInt 64 x &&& BitVec.ofInt 64 3).toNat < 4 := by
    rw [BitVec.toNat_and]
    exact Nat.lt_of_le_of_lt Nat.and_le_right (by decide)
  have e : IntKind.i64.bits = 64 := rfl
  rw [IntKind.wrap_i64]
  show 0 ≤ (((BitVec.ofInt 64 x &&& BitVec.ofInt 64 3).toNat : Int) + 9223372036854775808) % 18446744073709551616 - 9223372036854775808 ∧ (((BitVec.ofInt 64 x &&& BitVec.ofInt 64 3).toNat : Int) + 9223372036854775808) % 18446744073709551616 - 9223372036854775808 < 4
  omega
/-- At most n bytes of a text. -/
def cutTo (s : ByteArray) (n : Nat) : ByteArray := if s.size > n then s.extract 0 n else s
theorem cutTo_size (s : ByteArray) (n : Nat) : (cutTo s n).size ≤ n := by
  unfold cutTo
  split
  · rw [ByteArray.size_extract]; omega
  · omega
theorem short_told (s : ByteArray) (n : Nat) : PNetPlays.heliographlaw14_short.f s (n : Int) = some (cutTo s n) := by
  unfold PNetPlays.heliographlaw14_short.f cutTo
  by_cases h : s.size > n
  · rw [if_pos (by omega), if_pos (by omega), if_pos (by omega), if_pos h, Int.toNat_natCast]
  · rw [if_neg (by omega), if_neg h]
theorem sendF_two (S : Net) (x y : Int) (s : ByteArray) (hx : 0 ≤ x ∧ x < 4) (hy : 0 ≤ y ∧ y < 4) (hs : s.size ≤ 60) (hl : S.mail.length < 1000) :
    sendF S x y s = if x = y then (0, false, S) else (wrap64 (S.last + 1), true, { S with mail := S.mail ++ [⟨wrap64 (S.last + 1), x, y, s, S.now⟩], last := wrap64 (S.last + 1) }) := by
  by_cases h : x = y
  · rw [if_pos h]
    exact sendF_no _ _ _ _ fun hh => by
      have := hh.1
      unfold two at this
      subst h
      simp at this
  · rw [if_neg h]
    refine sendF_yes _ _ _ _ ?_ (by omega) (by omega)
    unfold two
    rw [decide_eq_true ⟨hx.1, by omega⟩, decide_eq_true ⟨hy.1, by omega⟩, bne_iff_ne.2 h]
    rfl
/-- Are these two the two that are parted? -/
def pq (a b x y : Int) : Bool := (x == a && y == b) || (x == b && y == a)
theorem parted_set (a b x y : Int) (ha : 0 ≤ a ∧ a < 4) (hb : 0 ≤ b ∧ b < 4) (hx : 0 ≤ x ∧ x < 4) (hy : 0 ≤ y ∧ y < 4) (hxy : x ≠ y) : (setF emptyNet a b true).2.P (x.toNat * 64 + y.toNat) = pq a b x y := by
  unfold pq
  by_cases h : a = b
  · have h2 : setF emptyNet a b true = (false, emptyNet) := by
      rw [setF, if_neg]
      rintro ⟨h3, _⟩
      unfold two at h3
      subst h
      simp at h3
    rw [h2]
    show false = _
    symm
    rw [Bool.or_eq_false_iff, Bool.and_eq_false_iff, Bool.and_eq_false_iff, beq_eq_false_iff_ne, beq_eq_false_iff_ne, beq_eq_false_iff_ne, beq_eq_false_iff_ne]
    omega
  · have h2 : two a b = true := by
      unfold two
      rw [decide_eq_true ⟨ha.1, by omega⟩, decide_eq_true ⟨hb.1, by omega⟩, bne_iff_ne.2 h]
      rfl
    rw [setF, if_pos ⟨h2, by show false ≠ true; simp⟩]
    show (if x.toNat * 64 + y.toNat = b.toNat * 64 + a.toNat then true else if x.toNat * 64 + y.toNat = a.toNat * 64 + b.toNat then true else false) = _
    by_cases h3 : x = b ∧ y = a
    · rw [if_pos (by rw [h3.1, h3.2]), h3.1, h3.2]; simp
    · rw [if_neg (by omega)]
      by_cases h4 : x = a ∧ y = b
      · rw [if_pos (by rw [h4.1, h4.2]), h4.1, h4.2]; simp
      · rw [if_neg (by omega)]
        symm
        rw [Bool.or_eq_false_iff, Bool.and_eq_false_iff, Bool.and_eq_false_iff, beq_eq_false_iff_ne, beq_eq_false_iff_ne, beq_eq_false_iff_ne, beq_eq_false_iff_ne]
        omega
structure Ord where
  net : Net
  opened : List Int
  shut : List Int
def ordStep (a b : Int) (st : Ord) (o : OpR) : Ord :=
  if and3 o.a = and3 o.b then st
  else if pq a b (and3 o.a) (and3 o.b) = true then ⟨(sendF st.net (and3 o.a) (and3 o.b) (cutTo o.body 60)).2.2, st.opened, st.shut ++ [(sendF st.net (and3 o.a) (and3 o.b) (cutTo o.body 60)).1]⟩
  else ⟨(sendF st.net (and3 o.a) (and3 o.b) (cutTo o.body 60)).2.2, st.opened ++ [(sendF st.net (and3 o.a) (and3 o.b) (cutTo o.body 60)).1], st.shut⟩
def ordS (a b : Int) (l : List OpR) : Nat → Ord
  | 0 => ⟨(setF emptyNet a b true).2, [], []⟩
  | i + 1 => ordStep a b (ordS a b l i) (l.getD i zeroOp)
structure OrdOk (a b : Int) (st : Ord) (i : Nat) : Prop where
  len : st.net.mail.length ≤ i
  good : st.net.Good
  P : st.net.P = (setF emptyNet a b true).2.P
  last : st.net.last = (st.net.mail.length : Int)
  opened : st.opened = (st.net.mail.filter (opn st.net.P)).map Mail.id
  shut : st.shut = (st.net.mail.filter (fun m => !opn st.net.P m)).map Mail.id
  up : (st.net.mail.map Mail.id).Pairwise (· < ·)
  le : ∀ m ∈ st.net.mail, m.id ≤ st.net.last
theorem ord_ok (a b : Int) (ha : 0 ≤ a ∧ a < 4) (hb : 0 ≤ b ∧ b < 4) (l : List OpR) (i : Nat) (hi : i ≤ 30) : OrdOk a b (ordS a b l i) i := by
  induction i with
  | zero =>
    have h0 : (setF emptyNet a b true).2.mail = [] := by unfold setF; split <;> rfl
    have h1 : (setF emptyNet a b true).2.last = 0 := by unfold setF; split <;> rfl
    refine ⟨by show (setF emptyNet a b true).2.mail.length ≤ 0; rw [h0]; exact Nat.le_refl _, fun m hm => ?_, rfl, ?_, ?_, ?_, ?_, fun m hm => ?_⟩
    · have : m ∈ (setF emptyNet a b true).2.mail := hm
      rw [h0] at this; cases this
    · show (setF emptyNet a b true).2.last = ((setF emptyNet a b true).2.mail.length : Int)
      rw [h0, h1]; rfl
    · show [] = ((setF emptyNet a b true).2.mail.filter _).map Mail.id
      rw [h0]; rfl
    · show [] = ((setF emptyNet a b true).2.mail.filter _).map Mail.id
      rw [h0]; rfl
    · show ((setF emptyNet a b true).2.mail.map Mail.id).Pairwise (· < ·)
      rw [h0]; exact List.Pairwise.nil
    · have : m ∈ (setF emptyNet a b true).2.mail := hm
      rw [h0] at this; cases this
  | succ i ih =>
    have h := ih (by omega)
    rw [ordS]
    generalize ordS a b l i = st at h
    generalize l.getD i zeroOp = o
    have hx := and3_range o.a
    have hy := and3_range o.b
    unfold ordStep
    by_cases hxy : and3 o.a = and3 o.b
    · rw [if_pos hxy]
      exact ⟨by have := h.len; omega, h.good, h.P, h.last, h.opened, h.shut, h.up, h.le⟩
    · rw [if_neg hxy]
      have hs := sendF_two st.net (and3 o.a) (and3 o.b) (cutTo o.body 60) hx hy (cutTo_size _ _) (by have := h.len; omega)
      rw [if_neg hxy] at hs
      have hlen := h.len
      have hlast := h.last
      have ew : wrap64 (st.net.last + 1) = st.net.last + 1 := by unfold wrap64; omega
      rw [ew] at hs
      rw [hs]
      dsimp only
      generalize hm : (⟨st.net.last + 1, and3 o.a, and3 o.b, cutTo o.body 60, st.net.now⟩ : Mail) = m
      have hid : m.id = st.net.last + 1 := by rw [← hm]
      have hop : opn st.net.P m = !pq a b (and3 o.a) (and3 o.b) := by
        unfold opn key
        rw [← hm, h.P]
        rw [parted_set a b _ _ ha hb hx hy hxy]
      have hgd : m.ok := by rw [← hm]; exact ⟨hx.1, by have := hx.2; show and3 o.a < 64; omega, hy.1, by have := hy.2; show and3 o.b < 64; omega⟩
      have hup : ((st.net.mail ++ [m]).map Mail.id).Pairwise (· < ·) := by
        rw [List.map_append, List.pairwise_append]
        refine ⟨h.up, List.pairwise_singleton _ _, fun x hx' y hy' => ?_⟩
        obtain ⟨m', hm', rfl⟩ := List.mem_map.1 hx'
        have : y = m.id := by simpa using hy'
        rw [this, hid]
        have := h.le m' hm'
        omega
      have hle : ∀ m' ∈ st.net.mail ++ [m], m'.id ≤ st.net.last + 1 := fun m' hm' => by
        rcases List.mem_append.1 hm' with hm' | hm'
        · have := h.le m' hm'; omega
        · rw [List.mem_singleton.1 hm', hid]; omega
      have hl1 : ((st.net.mail ++ [m]).length : Int) = st.net.last + 1 := by rw [List.length_append, hlast]; simp
      have hl2 : (st.net.mail ++ [m]).length ≤ i + 1 := by rw [List.length_append]; simp; omega
      by_cases hp : pq a b (and3 o.a) (and3 o.b) = true
      · rw [if_pos hp]
        rw [hp] at hop
        refine ⟨hl2, good_put h.good _ hgd _, h.P, hl1.symm, ?_, ?_, hup, hle⟩
        · show st.opened = ((st.net.mail ++ [m]).filter (opn st.net.P)).map Mail.id
          rw [List.filter_append, List.filter_cons, hop, h.opened]; simp
        · show st.shut ++ [st.net.last + 1] = ((st.net.mail ++ [m]).filter (fun m => !opn st.net.P m)).map Mail.id
          rw [List.filter_append, List.filter_cons, hop, h.shut]; simp [hid]
      · rw [if_neg hp]
        rw [Bool.not_eq_true] at hp
        rw [hp] at hop
        refine ⟨hl2, good_put h.good _ hgd _, h.P, hl1.symm, ?_, ?_, hup, hle⟩
        · show st.opened ++ [st.net.last + 1] = ((st.net.mail ++ [m]).filter (opn st.net.P)).map Mail.id
          rw [List.filter_append, List.filter_cons, hop, h.opened]; simp [hid]
        · show st.shut = ((st.net.mail ++ [m]).filter (fun m => !opn st.net.P m)).map Mail.id
          rw [List.filter_append, List.filter_cons, hop, h.shut]; simp
/-- Joined again, all may come. -/
theorem joined_opn (a b : Int) (ha : 0 ≤ a ∧ a < 4) (hb : 0 ≤ b ∧ b < 4) (S : Net) (hP : S.P = (setF emptyNet a b true).2.P) : (setF S a b false).2.mail = S.mail ∧ ∀ m, opn (setF S a b false).2.P m = true := by
  by_cases h : a = b
  · have h2 : ∀ (T : Net) (x : Bool), setF T a b x = (false, T) := fun T x => by
      rw [setF, if_neg]
      rintro ⟨h3, _⟩
      unfold two at h3
      subst h
      simp at h3
    rw [h2]
    refine ⟨rfl, fun m => ?_⟩
    unfold opn
    rw [hP, h2]
    rfl
  · have h2 : two a b = true := by
      unfold two
      rw [decide_eq_true ⟨ha.1, by omega⟩, decide_eq_true ⟨hb.1, by omega⟩, bne_iff_ne.2 h]
      rfl
    have h3 : ∀ i, S.P i = (if i = b.toNat * 64 + a.toNat then true else if i = a.toNat * 64 + b.toNat then true else false) := fun i => by
      rw [hP, setF, if_pos ⟨h2, by show false ≠ true; simp⟩]
      rfl
    rw [setF, if_pos ⟨h2, by rw [h3, if_neg (by omega), if_pos rfl]; simp⟩]
    refine ⟨rfl, fun m => ?_⟩
    unfold opn
    show (!(if key m = b.toNat * 64 + a.toNat then false else if key m = a.toNat * 64 + b.toNat then false else S.P (key m))) = true
    rw [h3]
    split
    · rfl
    · split
      · rfl
      · rfl
theorem id_getD (l : List Mail) (j : Nat) : (l.getD j zeroMail).id = (l.map Mail.id).getD j 0 := by
  rw [List.getD_eq_getElem?_getD, List.getD_eq_getElem?_getD, List.getElem?_map]
  cases l[j]? <;> rfl
/-- The network behind the takes of what was open. -/
def ordT (st : Ord) : Net := firsts st.net st.opened.length
def ordJ (a b : Int) (st : Ord) : Net := (setF (ordT st) a b false).2
section
variable {a b : Int} {st : Ord} {i : Nat} (h : OrdOk a b st i) (ha : 0 ≤ a ∧ a < 4) (hb : 0 ≤ b ∧ b < 4)
include h
theorem ord_olen : (st.net.mail.filter (opn st.net.P)).length = st.opened.length := by rw [h.opened, List.length_map]
theorem ord_take (j : Nat) (hj : j < st.opened.length) : takeF (firsts st.net j) 0 = (told (firsts st.net j) ((st.net.mail.filter (opn st.net.P)).getD j zeroMail), true, firsts st.net (j + 1)) ∧ (told (firsts st.net j) ((st.net.mail.filter (opn st.net.P)).getD j zeroMail)).id = st.opened.getD j 0 := by
  refine ⟨firsts_take st.net h.good j (by rw [ord_olen h]; exact hj), ?_⟩
  show ((st.net.mail.filter (opn st.net.P)).getD j zeroMail).id = _
  rw [id_getD, h.opened]
theorem ord_net (j : Nat) (hj : j ≤ st.opened.length) : (firsts st.net j).Good ∧ (firsts st.net j).mail.length ≤ i := by
  obtain ⟨h1, h2, h3, h4, h5⟩ := firsts_facts st.net h.good j (by rw [ord_olen h]; exact hj)
  have := h.len
  exact ⟨h2, by omega⟩
theorem ord_none : takeF (ordT st) 0 = (zeroMail, false, ordT st) := by
  unfold ordT
  rw [← ord_olen h]
  exact firsts_none st.net h.good
include ha hb
theorem ord_J : (ordJ a b st).mail.filter (opn (ordJ a b st).P) = (ordJ a b st).mail ∧ (ordJ a b st).mail.map Mail.id = st.shut ∧ (ordJ a b st).Good ∧ (ordJ a b st).mail.length = st.shut.length ∧ (ordJ a b st).mail.length ≤ i := by
  obtain ⟨h1, h2, h3, h4, h5⟩ := firsts_facts st.net h.good st.opened.length (by rw [ord_olen h]; exact Nat.le_refl _)
  obtain ⟨k1, k2⟩ := joined_opn a b ha hb (ordT st) (h1.trans h.P)
  have e1 : (ordT st).mail = st.net.mail.filter (fun m => !opn st.net.P m) := by
    rw [← h4]
    refine (opn_split (opn st.net.P) _ ?_).symm
    show (firsts st.net st.opened.length).mail.filter (opn st.net.P) = []
    rw [h3, ← ord_olen h, List.drop_length]
  have e2 : (ordJ a b st).mail = st.net.mail.filter (fun m => !opn st.net.P m) := k1.trans e1
  have e3 : (ordJ a b st).mail.map Mail.id = st.shut := by rw [e2, h.shut]
  refine ⟨List.filter_eq_self.2 fun m _ => k2 m, e3, fun m hm => ?_, by rw [← e3, List.length_map], ?_⟩
  · rw [e2] at hm
    exact h.good m ((List.mem_filter.1 hm).1)
  · rw [e2]
    exact Nat.le_trans (List.length_filter_le _ _) h.len
theorem ord_take2 (j : Nat) (hj : j < st.shut.length) : takeF (firsts (ordJ a b st) j) 0 = (told (firsts (ordJ a b st) j) ((ordJ a b st).mail.getD j zeroMail), true, firsts (ordJ a b st) (j + 1)) ∧ (told (firsts (ordJ a b st) j) ((ordJ a b st).mail.getD j zeroMail)).id = st.shut.getD j 0 := by
  obtain ⟨h1, h2, h3, h4, h5⟩ := ord_J h ha hb
  have := firsts_take (ordJ a b st) h3 j (by rw [h1, h4]; exact hj)
  rw [h1] at this
  refine ⟨this, ?_⟩
  show ((ordJ a b st).mail.getD j zeroMail).id = _
  rw [id_getD, h2]
theorem ord_net2 (j : Nat) (hj : j ≤ st.shut.length) : (firsts (ordJ a b st) j).Good ∧ (firsts (ordJ a b st) j).mail.length ≤ i ∧ (j = st.shut.length → (firsts (ordJ a b st) j).mail.length = 0) := by
  obtain ⟨h1, h2, h3, h4, h5⟩ := ord_J h ha hb
  obtain ⟨k1, k2, k3, k4, k5⟩ := firsts_facts (ordJ a b st) h3 j (by rw [h1, h4]; exact hj)
  refine ⟨k2, by omega, fun e => ?_⟩
  subst e
  rw [h1, ← h4, List.drop_length] at k3
  have k6 : (ordJ a b st).mail.filter (fun m => !opn (ordJ a b st).P m) = [] := by
    rw [List.filter_eq_nil_iff]
    intro m hm
    rw [← h1] at hm
    have := (List.mem_filter.1 hm).2
    rw [this]; simp
  rw [h4] at k3
  have k7 := opn_split _ _ k3
  rw [← k7, k4, k6]
  rfl
omit ha hb in
theorem ord_up (j : Nat) (hj : j + 1 < st.shut.length) : st.shut.getD j 0 < st.shut.getD (j + 1) 0 := by
  have hp : st.shut.Pairwise (· < ·) := by
    rw [h.shut]
    exact h.up.sublist (List.Sublist.map _ List.filter_sublist)
  rw [List.pairwise_iff_getElem] at hp
  have := hp j (j + 1) (by omega) hj (by omega)
  rwa [List.getD_eq_getElem?_getD, List.getD_eq_getElem?_getD, List.getElem?_eq_getElem (by omega), List.getElem?_eq_getElem hj]
end
end Go.Proofs.Ytnggcegfieeonaa.Nx
