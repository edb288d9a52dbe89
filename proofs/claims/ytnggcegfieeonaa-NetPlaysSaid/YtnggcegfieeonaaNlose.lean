/- What is proved: what the network's method Lose comes to. No condition but what each theorem says. -/
import Derived.Test.YtnggcegfieeonaaPmb
namespace Go.Proofs.Ytnggcegfieeonaa.Nx
open Go.RowKit Go.Proofs.YtnggcegfieeonaaW.PrintWords Go.Proofs.YtnggcegfieeonaaW.PrintLast Go.Proofs.YtnggcegfieeonaaW.PrintMore
open Go.Proofs.Ytnggcegfieeonaa.PNetFull
set_option linter.unusedVariables false
set_option linter.unusedSimpArgs false
/-- Is the message lost? -/
def lostQ (e : Int) (m : Mail) : Bool := m.frm == e || m.to_ == e
set_option maxHeartbeats 8000000 in
set_option maxRecDepth 100000 in
theorem lost_calls (w : World) (m : Mail) (ge : Nat) (x : Int) (hx : w.cell? ⟨ge, 0, none⟩ = some (.int .i64 x)) :
    Calls Try.prog 50 #[m.val, .pointer (some ⟨ge, 0, none⟩)] w fun e w' => e = .returned (.bool (lostQ x m)) ∧ Below w.heap.size w w' := by
  have hu29 := Try.underlying29
  unfold Mail.val
  have HX := Aside0.mk hx
  have hdec : ((m.frm == x) = true) ∨ ((m.frm == x) = false ∧ (m.to_ == x) = true) ∨ ((m.frm == x) = false ∧ (m.to_ == x) = false) := by
    cases (m.frm == x) <;> cases (m.to_ == x) <;> simp
  have HQ := Aside0.mk (show lostQ x m = (m.frm == x || m.to_ == x) from rfl)
  clear hx
  rcases hdec with d1 | ⟨d1, d2⟩ | ⟨d1, d2⟩
  all_goals
    have HQ2 := Aside0.mk HQ.out
    (try rw [d1] at HQ2); (try rw [d2] at HQ2)
    go_enter Try.func50, Try.ntmps50
    go_wp2_with (first
      | ((with_reducible refine gate_dst (N := 2) rfl ?_); refine box_event ?hg (N := 2) ?hd (cs := #[.int .i64 m.id, .int .i64 m.frm, .int .i64 m.to_, .string m.body, .int .i64 m.age]) (t := 29) ?hr ?_; (case hd => rfl); (case hg => rfl); (case hr => first | (go_simp; done) | (go_simp; rfl)); intro gb hg w1 hbox hb; have HB1 := Aside0.mk hb; have HX1 := Aside0.mk hbox; have xe := pw_cell_below hb HX.out; have y1 := blk_cell HX1.out 1; have y2 := blk_cell HX1.out 2; simp only [List.getElem?_toArray, List.getElem?_cons_zero, List.getElem?_cons_succ] at y1 y2; clear hbox hb hg))
    go_ret
    exact ⟨by rw [HQ2.out]; rfl, HB1.out⟩
def NoneQ (q : Mail → Bool) (l : List Mail) (k : Nat) : Prop := ∀ j, j < k → q (l.getD j zeroMail) = false
/-- Where the first of a kind stands. -/
def FirstQ (q : Mail → Bool) (l : List Mail) (x : Int) : Prop := (∃ k : Nat, k < l.length ∧ x = (k : Int) ∧ q (l.getD k zeroMail) = true ∧ NoneQ q l k) ∨ (x = -1 ∧ NoneQ q l l.length)
theorem NoneQ.step {q : Mail → Bool} {l : List Mail} {k : Nat} (h : NoneQ q l k) (hk : q (l.getD k zeroMail) = false) : NoneQ q l (k + 1) := fun j hj => by
  by_cases e : j = k
  · rw [e]; exact hk
  · exact h j (by omega)
set_option maxHeartbeats 8000000 in
set_option maxRecDepth 100000 in
theorem index_calls {B : Nat} {w : World} {g b n c : Nat} {S : Net} (h : NetAt B w g (.slice (some ⟨b, 0, none⟩) n c) S) (hn : n = S.mail.length) (hlen : n < 1000000) (ge : Nat) (x : Int) (hx : w.cell? ⟨ge, 0, none⟩ = some (.int .i64 x)) :
    Calls Try.prog 52 #[.slice (some ⟨b, 0, none⟩) n c, .func (.func 50) #[] #[.pointer (some ⟨ge, 0, none⟩)]] w fun e w' => (∃ k, e = .returned (.int .i64 k) ∧ FirstQ (lostQ x) S.mail k) ∧ Below w.heap.size w w' := by
  have hu29 := Try.underlying29
  have HN := Aside0.mk h
  have HNN := Aside0.mk hn
  have HX := Aside0.mk hx
  have HL := Aside0.mk hlen
  clear h hn hx hlen
  go_enter Try.func52, Try.ntmps52
  go_wp2
  go_loopg [8] n (fun kq v8 wr => ∃ i : Nat, v8 = .int .i64 (i : Int) ∧ Aside0 (kq + i = n) ∧ Aside0 (NoneQ (lostQ x) S.mail i) ∧ Aside0 (Below w.heap.size w wr))
  case atStart => exact ⟨0, rfl, ⟨rfl⟩, ⟨fun j hj => absurd hj (Nat.not_lt_zero _)⟩, ⟨Below.refl _ _⟩⟩
  case round =>
    obtain ⟨i, rfl, HI, HQ, HB⟩ := hrel
    have HN4 := Aside0.mk (HN.out.below HB.out)
    have HX4 := Aside0.mk (pw_cell_below HB.out HX.out)
    by_cases hlt : i < n
    · have f1 : decide ((i : Int) < (n : Int)) = true := decide_eq_true (by omega)
      have f2 : decide (i < n) = true := decide_eq_true hlt
      have hil : i < S.mail.length := by have h1 := HNN.out; omega
      obtain ⟨m, hm⟩ : ∃ m, m = S.mail.getD i zeroMail := ⟨_, rfl⟩
      have x0 := HN4.out.mailat i 0 hil (by decide) (.int .i64 m.id) (by rw [hm]; rfl)
      rw [Nat.add_zero] at x0
      have x1 := HN4.out.mailat i 1 hil (by decide) (.int .i64 m.frm) (by rw [hm]; rfl)
      have x2 := HN4.out.mailat i 2 hil (by decide) (.int .i64 m.to_) (by rw [hm]; rfl)
      have x3 := HN4.out.mailat i 3 hil (by decide) (.string m.body) (by rw [hm]; rfl)
      have x4 := HN4.out.mailat i 4 hil (by decide) (.int .i64 m.age) (by rw [hm]; rfl)
      have q0 : (0 : Int) ≤ (i : Int) := Int.natCast_nonneg _
      have q1 : (i : Int) < (n : Int) := by omega
      have HM := Aside0.mk hm
      have HLT := Aside0.mk hlt
      have HE := Aside0.mk (show wrap64 ((i : Int) + 1) = ((i + 1 : Nat) : Int) by have h1 := HL.out; rw [wrap64]; omega)
      clear hm hil hlt
      cases hs : lostQ x m with
      | true =>
        have HS := Aside0.mk hs
        clear hs
        go_wp2_with (first
          | (go_at_call 50; ((refine (lost_calls _ m ge x HX4.out).mono ?_); rintro e w5 ⟨he, hb⟩; rw [HS.out] at he; subst he; have HB5 := Aside0.mk (HB.out.trans (hb.mono HB.out.size)); clear hb)))
        go_ret
        exact ⟨⟨i, rfl, .inl ⟨i, by have h1 := HLT.out; have h2 := HNN.out; omega, rfl, by rw [← HM.out]; exact HS.out, HQ.out⟩⟩, HB5.out⟩
      | false =>
        have HS := Aside0.mk hs
        clear hs
        go_wp2_with (first
          | (go_at_call 50; ((refine (lost_calls _ m ge x HX4.out).mono ?_); rintro e w5 ⟨he, hb⟩; rw [HS.out] at he; subst he; have HB5 := Aside0.mk (HB.out.trans (hb.mono HB.out.size)); clear hb)))
        go_roundg (gk - 1)
        case measure => have h1 := HI.out; have h2 := HLT.out; omega
        case rel => exact ⟨i + 1, by have h := HE.out; rw [h], ⟨by have h1 := HI.out; have h2 := HLT.out; omega⟩, ⟨HQ.out.step (by rw [← HM.out]; exact HS.out)⟩, HB5⟩
    · have f1 : decide ((i : Int) < (n : Int)) = false := decide_eq_false (by omega)
      have f2 : decide (i < n) = false := decide_eq_false hlt
      have HIN := Aside0.mk (show i = S.mail.length by have h1 := HI.out; have h2 := HNN.out; omega)
      clear hlt
      go_wp2
      go_ret
      exact ⟨⟨-1, rfl, .inr ⟨rfl, by rw [← HIN.out]; exact HQ.out⟩⟩, HB.out⟩
/-- A row of messages lies at a block. -/
structure RowIs (w : World) (b cap n : Nat) (l : List Mail) : Prop where
  len : l.length = n
  row : ∃ arr, w.heap[b]? = some (.cells arr 29 (0, 0)) ∧ arr.size = cap * 5 ∧ arr.toList.take (n * 5) = vals l
  room : n ≤ cap
theorem RowIs.at_ {w : World} {b cap n : Nat} {l : List Mail} (h : RowIs w b cap n l) (i j : Nat) (hi : i < n) (hj : j < 5) (u : Value) (hu : ((l.getD i zeroMail).cells)[j]? = some u) : w.cell? ⟨b, i * 5 + j, none⟩ = some u := by
  obtain ⟨arr, h1, h2, h3⟩ := h.row
  have hl := h.len
  have hr := h.room
  rw [cell_of_row w b (i * 5 + j) arr 29 (0, 0) h1]
  have h7 : (arr.toList.take (n * 5))[i * 5 + j]? = (vals l)[i * 5 + j]? := by rw [h3]
  rw [List.getElem?_take, if_pos (by omega), vals_at _ i j (by omega) hj, Array.getElem?_toList] at h7
  rw [h7, ← hu, List.getD_eq_getElem?_getD, List.getElem?_eq_getElem (show i < l.length by omega)]
  rfl
theorem RowIs.keep {w w' : World} {b cap n : Nat} {l : List Mail} (h : RowIs w b cap n l) (hb : w'.heap[b]? = w.heap[b]?) : RowIs w' b cap n l := by
  obtain ⟨arr, h1, h2, h3⟩ := h.row
  exact ⟨h.len, ⟨arr, hb.trans h1, h2, h3⟩, h.room⟩
theorem RowIs.lt {w : World} {b cap n : Nat} {l : List Mail} (h : RowIs w b cap n l) : b < w.heap.size := by
  obtain ⟨arr, h1, _⟩ := h.row
  exact blk_lt h1
theorem RowIs.there {w : World} {b cap n : Nat} {l : List Mail} (h : RowIs w b cap n l) (o k : Nat) (hk : o + k ≤ cap * 5) : w.there b o k := fun j hj => by
  obtain ⟨arr, h1, h2, _⟩ := h.row
  exact ⟨by rw [cell_of_row w b _ arr 29 (0, 0) h1, Array.getElem?_eq_getElem (by omega)]; rfl, blk_frozen h1 _⟩
theorem vals_set (l : List Mail) (i : Nat) (m : Mail) (hi : i < l.length) (arr arr' : List Value) (n : Nat) (hn : l.length = n) (hl : arr.take (n * 5) = vals l) (hs : n * 5 ≤ arr.length) (h1 : ∀ j, j < i * 5 ∨ i * 5 + 5 ≤ j → j < n * 5 → arr'[j]? = arr[j]?) (h2 : ∀ j, j < 5 → arr'[i * 5 + j]? = m.cells[j]?) : arr'.take (n * 5) = vals (l.set i m) := by
  apply List.ext_getElem?
  intro j
  have ha : ∀ j, j < n * 5 → arr[j]? = (vals l)[j]? := fun j hj => by rw [← hl, List.getElem?_take, if_pos hj]
  by_cases hj : j < n * 5
  · have e1 : (vals (l.set i m))[j / 5 * 5 + j % 5]? = ((l.set i m)[j / 5]'(by rw [List.length_set]; omega)).cells[j % 5]? := vals_at _ _ _ (by rw [List.length_set]; omega) (by omega)
    rw [show j / 5 * 5 + j % 5 = j by omega] at e1
    rw [List.getElem?_take, if_pos hj, e1, List.getElem_set]
    by_cases e : i = j / 5
    · rw [if_pos e, ← h2 (j % 5) (by omega), show i * 5 + j % 5 = j by omega]
    · rw [if_neg e, h1 j (by omega) hj, ha j hj]
      have e2 := vals_at l (j / 5) (j % 5) (by omega) (by omega)
      rw [show j / 5 * 5 + j % 5 = j by omega] at e2
      exact e2
  · rw [List.getElem?_eq_none (by rw [List.length_take]; omega), List.getElem?_eq_none (by rw [vals_length, List.length_set]; omega)]
theorem setCells_rest (g : Nat) (t : TypeId) (zs : List Value) : ∀ (w : World) (o : Nat) (cs : Array Value), w.heap[g]? = some (.cells cs t (0, 0)) → ∃ cs', (w.setCells g o zs).heap[g]? = some (.cells cs' t (0, 0)) ∧ cs'.size = cs.size ∧ (∀ j, j < o ∨ o + zs.length ≤ j → cs'[j]? = cs[j]?) ∧ (∀ j, j < zs.length → o + j < cs.size → cs'[o + j]? = zs[j]?) := by
  induction zs with
  | nil => intro w o cs h; exact ⟨cs, h, rfl, fun _ _ => rfl, fun j hj => by simp at hj⟩
  | cons z zs ih =>
    intro w o cs h
    obtain ⟨cs', h1, h2, h3, h4⟩ := ih (w.setCell ⟨g, o, none⟩ z) (o + 1) _ (blk_set h o z)
    refine ⟨cs', h1, by rw [h2]; simp, fun j hj => ?_, fun j hj hz => ?_⟩
    · rw [h3 j (by simp at hj; omega), Array.getElem?_setIfInBounds_ne (by simp at hj; omega)]
    · cases j with
      | zero => rw [Nat.add_zero, h3 o (by omega), Array.getElem?_setIfInBounds_self_of_lt (by omega)]; rfl
      | succ j => rw [show o + (j + 1) = o + 1 + j by omega, h4 j (by simpa using hj) (by simp; omega)]; rfl
theorem RowIs.stored {w : World} {b cap n : Nat} {l : List Mail} (h : RowIs w b cap n l) (i : Nat) (hi : i < n) (m : Mail) : RowIs (w.setCells b (i * 5) m.cells) b cap n (l.set i m) := by
  obtain ⟨arr, h1, h2, h3⟩ := h.row
  have hl := h.len
  have hr := h.room
  obtain ⟨arr', k1, k2, k3, k4⟩ := setCells_rest b 29 m.cells w (i * 5) arr h1
  have k5 : m.cells.length = 5 := rfl
  refine ⟨by rw [List.length_set]; exact hl, ⟨arr', k1, by rw [k2]; exact h2, ?_⟩, hr⟩
  refine vals_set l i m (by omega) arr.toList arr'.toList n hl h3 (by rw [Array.length_toList]; omega) (fun j hj _ => ?_) (fun j hj => ?_)
  · rw [Array.getElem?_toList, Array.getElem?_toList]
    exact k3 j (by omega)
  · rw [Array.getElem?_toList]
    exact k4 j (by omega) (by omega)
theorem zeros_one (k : Nat) : ∀ u ∈ (Builtin.zeroCells #[.int .i64 0, .int .i64 0, .int .i64 0, .string ⟨#[]⟩, .int .i64 0] k).toList, u.oneCell' = true := by
  intro u hu
  simp only [Builtin.zeroCells, Array.toList_map, List.mem_map] at hu
  obtain ⟨a, _, rfl⟩ := hu
  have h5 : a % 5 = 0 ∨ a % 5 = 1 ∨ a % 5 = 2 ∨ a % 5 = 3 ∨ a % 5 = 4 := by omega
  show (#[Value.int .i64 0, .int .i64 0, .int .i64 0, .string ⟨#[]⟩, .int .i64 0][a % 5]!).oneCell' = true
  rcases h5 with h | h | h | h | h <;> rw [h] <;> rfl
theorem run_clear_mails (w : World) (ty : TypeId) (b o k c : Nat) (hk : 0 < k) (ht : w.there b o (k * 5)) :
    (Builtin.clear_ #[43] ty #[.slice (some ⟨b, o, none⟩) k c]).run Try.prog w = .ok (.tuple #[]) (w.setCells b o (Builtin.zeroCells #[.int .i64 0, .int .i64 0, .int .i64 0, .string ⟨#[]⟩, .int .i64 0] k).toList) := by
  have hzl : (Builtin.zeroCells #[.int .i64 0, .int .i64 0, .int .i64 0, .string ⟨#[]⟩, .int .i64 0] k).toList.length = k * 5 := by rw [Array.length_toList, size_zeroCells]; rfl
  have hst := run_storeCells_cells (P := Try.prog) b o (Builtin.zeroCells #[.int .i64 0, .int .i64 0, .int .i64 0, .string ⟨#[]⟩, .int .i64 0] k).toList 0 w (fun j hj => by rw [Nat.add_zero]; exact (ht j (by omega)).1) (fun j hj => by rw [Nat.add_zero]; exact (ht j (by omega)).2) (zeros_one k)
  simp only [Nat.add_zero] at hst
  obtain ⟨k, rfl⟩ : ∃ k', k = k' + 1 := ⟨k - 1, by omega⟩
  simp [Builtin.clear_, run_underlying Try.underlying43, zero29, Value.cells, hst]
theorem RowIs.cut {w w' : World} {b cap n : Nat} {l : List Mail} (h : RowIs w b cap n l) (i : Nat) (hi : i ≤ n) (arr' : Array Value) (k1 : w'.heap[b]? = some (.cells arr' 29 (0, 0))) (arr : Array Value) (h1 : w.heap[b]? = some (.cells arr 29 (0, 0))) (k2 : arr'.size = arr.size) (k3 : ∀ j, j < i * 5 → arr'[j]? = arr[j]?) : RowIs w' b cap i (l.take i) := by
  obtain ⟨arr0, e1, e2, e3⟩ := h.row
  rw [h1] at e1
  injection e1 with e1
  injection e1 with e1
  subst e1
  have hl := h.len
  have hr := h.room
  refine ⟨by rw [List.length_take]; omega, ⟨arr', k1, by rw [k2]; exact e2, ?_⟩, by omega⟩
  rw [← vals_take, ← e3, List.take_take, Nat.min_eq_left (by omega)]
  apply List.ext_getElem?
  intro j
  rw [List.getElem?_take, List.getElem?_take]
  by_cases hj : j < i * 5
  · rw [if_pos hj, if_pos hj, Array.getElem?_toList, Array.getElem?_toList, k3 j hj]
  · rw [if_neg hj, if_neg hj]
/-- What lies in the row while those of a kind are struck. -/
structure DelI (q : Mail → Bool) (l cur : List Mail) (i j n : Nat) : Prop where
  lt : i < j
  jn : j ≤ n
  tk : cur.take i = (l.take j).filter fun m => !q m
  dr : cur.drop j = l.drop j
theorem getD_drop {l cur : List Mail} {j : Nat} (h : cur.drop j = l.drop j) : cur.getD j zeroMail = l.getD j zeroMail := by
  have h1 : (cur.drop j)[0]? = (l.drop j)[0]? := by rw [h]
  rw [List.getElem?_drop, List.getElem?_drop, Nat.add_zero] at h1
  rw [List.getD_eq_getElem?_getD, List.getD_eq_getElem?_getD, h1]
theorem drop_more {l cur : List Mail} {j : Nat} (h : cur.drop j = l.drop j) : cur.drop (j + 1) = l.drop (j + 1) := by
  have := congrArg (List.drop 1) h
  rwa [List.drop_drop, List.drop_drop] at this
theorem DelI.lost {q : Mail → Bool} {l cur : List Mail} {i j n : Nat} (h : DelI q l cur i j n) (hl : l.length = n) (hj : j < n) (hq : q (l.getD j zeroMail) = true) : DelI q l cur i (j + 1) n :=
  ⟨by have := h.lt; omega, by omega, by rw [filter_take l _ j (by omega), if_neg (by rw [hq]; simp), List.append_nil]; exact h.tk, drop_more h.dr⟩
theorem DelI.kept {q : Mail → Bool} {l cur : List Mail} {i j n : Nat} (h : DelI q l cur i j n) (hl : l.length = n) (hc : cur.length = n) (hj : j < n) (hq : q (l.getD j zeroMail) = false) : DelI q l (cur.set i (l.getD j zeroMail)) (i + 1) (j + 1) n := by
  have hlt := h.lt
  refine ⟨by omega, by omega, ?_, ?_⟩
  · rw [filter_take l _ j (by omega), if_pos (by rw [hq]; rfl), ← h.tk, List.take_add_one, List.getElem?_set_self (by omega), List.take_set_of_le (Nat.le_refl _)]
    rfl
  · rw [List.drop_set_of_lt (by omega)]
    exact drop_more h.dr
theorem DelI.start {q : Mail → Bool} {l : List Mail} {k n : Nat} (hl : l.length = n) (hk : k < n) (hq : q (l.getD k zeroMail) = true) (hn : NoneQ q l k) : DelI q l l k (k + 1) n := by
  refine ⟨by omega, by omega, ?_, rfl⟩
  rw [filter_take l _ k (by omega), if_neg (by rw [hq]; simp), List.append_nil]
  symm
  rw [List.filter_eq_self]
  intro m hm
  obtain ⟨j, hj, rfl⟩ := List.mem_iff_getElem.1 hm
  rw [List.length_take] at hj
  have := hn j (by omega)
  rw [List.getD_eq_getElem?_getD, List.getElem?_eq_getElem (by omega)] at this
  rw [List.getElem_take]
  simpa using this
theorem none_all {q : Mail → Bool} {l : List Mail} (h : NoneQ q l l.length) : l.filter (fun m => !q m) = l := by
  rw [List.filter_eq_self]
  intro m hm
  obtain ⟨j, hj, rfl⟩ := List.mem_iff_getElem.1 hm
  have := h j hj
  rw [List.getD_eq_getElem?_getD, List.getElem?_eq_getElem hj] at this
  simpa using this
theorem NetAt.rowIs {B : Nat} {w : World} {g b n c : Nat} {S : Net} (h : NetAt B w g (.slice (some ⟨b, 0, none⟩) n c) S) : RowIs w b c n S.mail ∧ c ≤ maxLen := by
  rcases h.own.2 with ⟨e, _⟩ | ⟨b', c', cur, e, h1, h2, h3, h4, h5, h6⟩
  · cases e
  · injection e with e1 e2 e3
    injection e1 with e1
    injection e1 with e1
    subst e1
    subst e2
    subst e3
    exact ⟨⟨rfl, ⟨cur, h2, h5, h6⟩, h3⟩, h4⟩
/-- At a store of this kind only. -/
theorem gate_store {P : Program} {ops : Array Oper} {rest : List Oper} {op : Oper} {a : Act} {w : World} {Q : Exit → Act → World → Prop} {t : TypeId} {x y : Operand} (_ho : op.op = .store t x y) (h : wpList P ops Q (op :: rest) a w) : wpList P ops Q (op :: rest) a w := h
set_option maxHeartbeats 16000000 in
set_option maxRecDepth 100000 in
theorem strike_calls {B : Nat} {w : World} {g b n c : Nat} {S : Net} (h : NetAt B w g (.slice (some ⟨b, 0, none⟩) n c) S) (hn : n = S.mail.length) (hlen : n < 1000000) (ge : Nat) (hge : ge ≠ b) (x : Int) (hx : w.cell? ⟨ge, 0, none⟩ = some (.int .i64 x)) (k : Nat) (hk : k = (S.mail.filter fun m => !lostQ x m).length) :
    Calls Try.prog 49 #[.slice (some ⟨b, 0, none⟩) n c, .func (.func 50) #[] #[.pointer (some ⟨ge, 0, none⟩)]] w fun e w' => e = .returned (.slice (some ⟨b, 0, none⟩) k c) ∧ RowIs w' b c k (S.mail.filter fun m => !lostQ x m) ∧ (∀ i, i < w.heap.size → i ≠ b → w'.heap[i]? = w.heap[i]?) ∧ Below b w w' := by
  have hu29 := Try.underlying29
  have hz9 := zero29
  have HN := Aside0.mk h
  have HNN := Aside0.mk hn
  have HX := Aside0.mk hx
  have HL := Aside0.mk hlen
  have HGE := Aside0.mk hge
  have HK := Aside0.mk hk
  have HR := Aside0.mk h.rowIs.1
  have HCM := Aside0.mk h.rowIs.2
  have hncap : n ≤ c := h.rowIs.1.room
  clear h hn hx hlen hge hk
  go_enter Try.func49, Try.ntmps49
  go_upto_region 2 with (first
    | (go_at_call 52; ((refine (index_calls HN.out HNN.out HL.out ge x HX.out).mono ?_); rintro e w1 ⟨⟨kk, rfl, hf⟩, hb⟩; have HF := Aside0.mk hf; have HB1 := Aside0.mk hb; clear hf hb)))
  rcases HF.out with ⟨k0, hk1, rfl, hk3, hk4⟩ | ⟨rfl, hk4⟩
  · have HST := Aside0.mk (DelI.start (q := lostQ x) (l := S.mail) (n := n) HNN.out.symm (by have h1 := HNN.out; omega) hk3 hk4)
    have HRK := Aside0.mk (HR.out.keep (HB1.out.block b HR.out.lt))
    have e1 : ((k0 : Int) == -1) = false := by rw [beq_eq_false_iff_ne]; omega
    have ew : wrap64 ((k0 : Int) + 1) = ((k0 + 1 : Nat) : Int) := by have h1 := HL.out; have h2 := HNN.out; rw [wrap64]; omega
    have HEW := Aside0.mk ew
    have HK0 := Aside0.mk (show k0 + 1 ≤ n by have h2 := HNN.out; omega)
    clear hk1 hk3 hk4 ew
    go_wp2
    go_loopg [5, 6] n (fun kq v5 v6 wl => ∃ (i j : Nat) (cur : List Mail), v5 = .int .i64 (i : Int) ∧ v6 = .int .i64 (j : Int) ∧ Aside0 (kq + j = n + (k0 + 1)) ∧ Aside0 (DelI (lostQ x) S.mail cur i j n) ∧ Aside0 (RowIs wl b c n cur) ∧ Aside0 (∀ i, i < w.heap.size → i ≠ b → wl.heap[i]? = w.heap[i]?) ∧ Aside0 (Below b w wl))
    case atStart => exact ⟨k0, k0 + 1, S.mail, rfl, by have h := HEW.out; rw [h], ⟨rfl⟩, HST, HRK, ⟨fun i hi _ => HB1.out.block i hi⟩, ⟨HB1.out.mono (Nat.le_of_lt HR.out.lt)⟩⟩
    case round =>
      obtain ⟨i, j, cur, rfl, rfl, HI, HD, HC, HO, HB⟩ := hrel
      have hcl := HC.out.len
      have HX4 := Aside0.mk (show wr.cell? ⟨ge, 0, none⟩ = some (.int .i64 x) from (World.cell?_of_block (a := ⟨ge, 0, none⟩) (HO.out ge (World.block_lt_of_cell? w ⟨ge, 0, none⟩ HX.out) HGE.out)).trans HX.out)
      by_cases hlt : j < n
      · have f1 : decide ((j : Int) < (n : Int)) = true := decide_eq_true (by omega)
        have f2 : decide (j < n) = true := decide_eq_true hlt
        obtain ⟨m, hm⟩ : ∃ m, m = S.mail.getD j zeroMail := ⟨_, rfl⟩
        have hmc := getD_drop HD.out.dr
        rw [← hm] at hmc
        have x0 := HC.out.at_ j 0 hlt (by decide) (.int .i64 m.id) (by rw [hmc]; rfl)
        rw [Nat.add_zero] at x0
        have x1 := HC.out.at_ j 1 hlt (by decide) (.int .i64 m.frm) (by rw [hmc]; rfl)
        have x2 := HC.out.at_ j 2 hlt (by decide) (.int .i64 m.to_) (by rw [hmc]; rfl)
        have x3 := HC.out.at_ j 3 hlt (by decide) (.string m.body) (by rw [hmc]; rfl)
        have x4 := HC.out.at_ j 4 hlt (by decide) (.int .i64 m.age) (by rw [hmc]; rfl)
        have q0 : (0 : Int) ≤ (j : Int) := Int.natCast_nonneg _
        have q1 : (j : Int) < (n : Int) := by omega
        have q2 : (0 : Int) ≤ (i : Int) := Int.natCast_nonneg _
        have q3 : (i : Int) < (n : Int) := by have h1 := HD.out.lt; omega
        have HM := Aside0.mk hm
        have HLT := Aside0.mk hlt
        have HE := Aside0.mk (show wrap64 ((j : Int) + 1) = ((j + 1 : Nat) : Int) by have h1 := HL.out; rw [wrap64]; omega)
        have HE2 := Aside0.mk (show wrap64 ((i : Int) + 1) = ((i + 1 : Nat) : Int) by have h1 := HL.out; rw [wrap64]; omega)
        have HIJ := Aside0.mk HD.out.lt
        clear hm hlt hmc hcl
        cases hs : lostQ x m with
        | true =>
          have HS := Aside0.mk hs
          clear hs
          go_upto_region 8 with (first
            | ((with_reducible refine gate_dst (N := 7) rfl ?_); refine box_event ?hg (N := 7) ?hd (cs := #[.int .i64 0, .int .i64 0, .int .i64 0, .string ⟨#[]⟩, .int .i64 0]) (t := 29) ?hr ?_; (case hd => rfl); (case hg => rfl); (case hr => first | (go_simp; done) | (go_simp; rfl)); intro gb hg w4 hbox hb; have HX5 := Aside0.mk hbox; have HBX := Aside0.mk hb; have HG := Aside0.mk hg; clear hbox hb hg x0 x1 x2 x3 x4)
            | (refine store_box rfl (.tmp 7) (.tmp 25) rfl gb _ (by rfl) rfl m (by rfl) HX5.out ?_; intro w5 hx5 hfar5 hb5; have HX6 := Aside0.mk hx5; have HBX6 := Aside0.mk (HBX.out.trans (hb5.mono (Nat.le_of_eq HG.out.symm))); have HX7 := Aside0.mk (pw_cell_below HBX6.out HX4.out); have y0 := blk_cell HX6.out 0; have y1 := blk_cell HX6.out 1; have y2 := blk_cell HX6.out 2; have y3 := blk_cell HX6.out 3; have y4 := blk_cell HX6.out 4; simp only [mail_cells, List.getElem?_toArray, List.getElem?_cons_zero, List.getElem?_cons_succ] at y0 y1 y2 y3 y4; clear hx5 hfar5 hb5))
          (try simp only [Act.put, List.setIfInBounds_toArray, List.set_cons_zero, List.set_cons_succ])
          go_wp2_with (first
            | (go_at_call 50; ((refine (lost_calls _ m ge x HX7.out).mono ?_); rintro e w6 ⟨he, hb⟩; rw [HS.out] at he; subst he; have HB6 := Aside0.mk (HBX6.out.trans (hb.mono HBX6.out.size)); clear hb)))
          go_roundg (gk - 1)
          case measure => have h1 := HI.out; have h2 := HLT.out; omega
          case rel => exact ⟨i, j + 1, cur, rfl, by have h := HE.out; rw [h], ⟨by have h1 := HI.out; have h2 := HLT.out; omega⟩, ⟨HD.out.lost HNN.out.symm HLT.out (by rw [← HM.out]; exact HS.out)⟩, ⟨HC.out.keep (HB6.out.block b HC.out.lt)⟩, ⟨fun k hk hne => (HB6.out.block k (Nat.lt_of_lt_of_le hk HB.out.size)).trans (HO.out k hk hne)⟩, ⟨HB.out.trans (HB6.out.mono (Nat.le_of_lt HC.out.lt))⟩⟩
        | false =>
          have HS := Aside0.mk hs
          clear hs
          go_upto_region 8 with (first
            | ((with_reducible refine gate_dst (N := 7) rfl ?_); refine box_event ?hg (N := 7) ?hd (cs := #[.int .i64 0, .int .i64 0, .int .i64 0, .string ⟨#[]⟩, .int .i64 0]) (t := 29) ?hr ?_; (case hd => rfl); (case hg => rfl); (case hr => first | (go_simp; done) | (go_simp; rfl)); intro gb hg w4 hbox hb; have HX5 := Aside0.mk hbox; have HBX := Aside0.mk hb; have HG := Aside0.mk hg; clear hbox hb hg x0 x1 x2 x3 x4)
            | (refine store_box rfl (.tmp 7) (.tmp 25) rfl gb _ (by rfl) rfl m (by rfl) HX5.out ?_; intro w5 hx5 hfar5 hb5; have HX6 := Aside0.mk hx5; have HBX6 := Aside0.mk (HBX.out.trans (hb5.mono (Nat.le_of_eq HG.out.symm))); have HX7 := Aside0.mk (pw_cell_below HBX6.out HX4.out); have y0 := blk_cell HX6.out 0; have y1 := blk_cell HX6.out 1; have y2 := blk_cell HX6.out 2; have y3 := blk_cell HX6.out 3; have y4 := blk_cell HX6.out 4; simp only [mail_cells, List.getElem?_toArray, List.getElem?_cons_zero, List.getElem?_cons_succ] at y0 y1 y2 y3 y4; clear hx5 hfar5 hb5))
          (try simp only [Act.put, List.setIfInBounds_toArray, List.set_cons_zero, List.set_cons_succ])
          go_wp2_with (first
            | (go_at_call 50; ((refine (lost_calls _ m ge x HX7.out).mono ?_); rintro e w6 ⟨he, hb⟩; rw [HS.out] at he; subst he; have HB6 := Aside0.mk (HBX6.out.trans (hb.mono HBX6.out.size)); have HX8 := Aside0.mk ((hb.block gb (blk_lt HX6.out)).trans HX6.out); have HC6 := Aside0.mk (HC.out.keep (HB6.out.block b HC.out.lt)); clear hb y0 y1 y2 y3 y4; have y0 := blk_cell HX8.out 0; have y1 := blk_cell HX8.out 1; have y2 := blk_cell HX8.out 2; have y3 := blk_cell HX8.out 3; have y4 := blk_cell HX8.out 4; simp only [mail_cells, List.getElem?_toArray, List.getElem?_cons_zero, List.getElem?_cons_succ] at y0 y1 y2 y3 y4))
            | ((with_reducible refine gate_store (t := 29) (x := .tmp 33) (y := .tmp 32) rfl ?_); refine wpList_store_mid rfl 29 (.tmp 33) (.tmp 32) rfl b (i * 5) m.cells.toArray rfl rfl (HC6.out.there (i * 5) 5 (by have h1 := HC.out.room; have h2 := HIJ.out; have h3 := HLT.out; omega)) (by kernel_rfl) (by simp [Mail.cells, Value.oneCell']) ?_; have HC7 := Aside0.mk (HC6.out.stored i (by have h2 := HIJ.out; have h3 := HLT.out; omega) m); clear y0 y1 y2 y3 y4))
          have HBS := Aside0.mk (setCells_below b b (Nat.le_refl _) m.cells w6 w6 (i * 5) (Below.refl _ _))
          go_roundg (gk - 1)
          case measure => have h1 := HI.out; have h2 := HLT.out; omega
          case rel => exact ⟨i + 1, j + 1, cur.set i m, by have h := HE2.out; rw [h], by have h := HE.out; rw [h], ⟨by have h1 := HI.out; have h2 := HLT.out; omega⟩, ⟨by have h := HD.out.kept HNN.out.symm HC.out.len HLT.out (by rw [← HM.out]; exact HS.out); rw [← HM.out] at h; exact h⟩, HC7, ⟨fun k hk hne => (setCells_far b m.cells w6 (i * 5) k hne).trans ((HB6.out.block k (Nat.lt_of_lt_of_le hk HB.out.size)).trans (HO.out k hk hne))⟩, ⟨(HB.out.trans (HB6.out.mono (Nat.le_of_lt HC.out.lt))).trans HBS.out⟩⟩
      · obtain rfl : j = n := by have h1 := HD.out.jn; omega
        have f1 : decide ((j : Int) < (j : Int)) = false := decide_eq_false (by omega)
        have f2 : decide (j < j) = false := decide_eq_false hlt
        have hij := HD.out.lt
        have HIJ := Aside0.mk hij
        have hclear := run_clear_mails wr 0 b (i * 5) (j - i) (c - i) (by omega) (HC.out.there (i * 5) ((j - i) * 5) (by have h1 := HC.out.room; omega))
        have HTK := Aside0.mk (show cur.take i = S.mail.filter (fun m => !lostQ x m) by rw [HD.out.tk, List.take_of_length_le (by have h1 := HNN.out; omega)])
        have HKI := Aside0.mk (show k = i by rw [HK.out, ← HTK.out, List.length_take]; omega)
        have q2 : (0 : Int) ≤ (i : Int) := Int.natCast_nonneg _
        have q3 : (i : Int) ≤ (j : Int) := by omega
        have q4 : (c = i) = False := eq_false (by omega)
        have q5 : (i : Int) ≤ (c : Int) := by omega
        clear hlt hcl hij
        go_wp2
        go_ret
        obtain ⟨arr, a1, a2, a3⟩ := HC.out.row
        obtain ⟨arr', r1, r2, r3, _⟩ := setCells_row b 29 (Builtin.zeroCells #[.int .i64 0, .int .i64 0, .int .i64 0, .string ⟨#[]⟩, .int .i64 0] (j - i)).toList wr (i * 5) arr a1
        have hcut := HC.out.cut (w' := wr.setCells b (i * 5) (Builtin.zeroCells #[.int .i64 0, .int .i64 0, .int .i64 0, .string ⟨#[]⟩, .int .i64 0] (j - i)).toList) i (by have h1 := HIJ.out; omega) arr' r1 arr a1 r2 r3
        rw [HTK.out] at hcut
        refine ⟨by rw [HKI.out]; rfl, by rw [HKI.out]; exact hcut, fun q hq hne => (setCells_far b _ wr (i * 5) q hne).trans (HO.out q hq hne), ?_⟩
        exact HB.out.trans (setCells_below b b (Nat.le_refl _) _ wr wr (i * 5) (Below.refl _ _))
  · have HRK := Aside0.mk (HR.out.keep (HB1.out.block b HR.out.lt))
    have HNA := Aside0.mk (none_all hk4)
    clear hk4
    have e1 : ((-1 : Int) == -1) = true := rfl
    go_wp2
    go_ret
    have hkn : k = n := by rw [HK.out, HNA.out, HNN.out]
    refine ⟨by rw [hkn]; rfl, by rw [hkn, HNA.out]; exact HRK.out, fun i hi _ => HB1.out.block i hi, HB1.out.mono (Nat.le_of_lt HR.out.lt)⟩
theorem NetAt.lost {B : Nat} {w w1 : World} {g b n c k : Nat} {S : Net} {l : List Mail} (h : NetAt B w g (.slice (some ⟨b, 0, none⟩) n c) S) (hr : RowIs w1 b c k l) (p4 : ∀ i, i < w.heap.size → i ≠ b → w1.heap[i]? = w.heap[i]?) (p5 : Below b w w1) :
    NetAt B (w1.setCell ⟨g, 0, none⟩ (.slice (some ⟨b, 0, none⟩) k c)) g (.slice (some ⟨b, 0, none⟩) k c) { S with mail := l } ∧
      Kp B w g (.slice (some ⟨b, 0, none⟩) n c) (w1.setCell ⟨g, 0, none⟩ (.slice (some ⟨b, 0, none⟩) k c)) (.slice (some ⟨b, 0, none⟩) k c) := by
  obtain ⟨cs, hb, hrow⟩ := h.row
  have hne := h.ne
  have hbg : b ≠ g := fun e => hne (by rw [e]; rfl)
  have hB := (h.own_lt b rfl).1
  have hmax := h.rowIs.2
  have hgl := h.lt
  have hs := p5.size
  obtain ⟨arr, a1, a2, a3⟩ := hr.row
  have hb1 : w1.heap[g]? = some (.cells cs 55 (0, 0)) := by rw [p4 g hgl hbg.symm]; exact hb
  have hkl := hr.len
  refine ⟨⟨h.ge, ⟨_, blk_set hb1 0 _, row_set0 cs hrow _ _⟩, by rw [vals_length], .inr ⟨b, c, arr, by rw [hkl], hB, ?_, by rw [hkl]; exact hr.room, hmax, a2, by rw [hkl]; exact a3⟩⟩, ⟨(p5.mono hB).setCell h.ge _, ⟨?_, fun i hi h1 h2 => ?_⟩, .inl rfl⟩⟩
  · rw [Below.heap_setCell w1 ⟨g, 0, none⟩ _ b hbg]; exact a1
  · simpa [World.setCell] using hs
  · rw [Below.heap_setCell w1 ⟨g, 0, none⟩ _ i h1]
    exact p4 i hi (fun e => h2 (by rw [e]; rfl))
def loseF (S : Net) (x : Int) : Int × Net := ((S.mail.length : Int) - ((S.mail.filter fun m => !lostQ x m).length : Int), { S with mail := S.mail.filter fun m => !lostQ x m })
set_option maxHeartbeats 8000000 in
set_option maxRecDepth 100000 in
theorem lose_calls {B : Nat} {w : World} {g : Nat} {v : Value} {S : Net} (h : NetAt B w g v S) (hlen : S.mail.length < 1000000) (x : Int) :
    Calls Try.prog 30 #[.pointer (some ⟨g, 0, none⟩), .int .i64 x] w fun e w' => e = .returned (.int .i64 (loseF S x).1) ∧ ∃ v', NetAt B w' g v' (loseF S x).2 ∧ Kp B w g v w' v' := by
  have hu55 := Try.underlying55
  have hu29 := Try.underlying29
  by_cases h0 : S.mail.length = 0
  · have HE := Aside0.mk (show loseF S x = (0, S) by
      obtain ⟨l, a, b, P⟩ := S
      have hl : l = [] := List.eq_nil_of_length_eq_zero h0
      subst hl
      rfl)
    have HN := Aside0.mk h
    have H0 := Aside0.mk h0
    rw [HE.out]
    clear h h0
    go_enter Try.func30, Try.ntmps30
    go_wp2_with (first
      | ((with_reducible refine gate_dst (N := 3) rfl ?_); refine box_event ?hg (N := 3) ?hd (cs := #[.int .i64 x]) (t := 3) ?hr ?_; (case hd => rfl); (case hg => rfl); (case hr => first | (go_simp; done) | (go_simp; rfl)); intro gb hg w1 hbox hb; have HB1 := Aside0.mk hb; have HN1 := Aside0.mk (HN.out.below hb); clear hbox hb hg)
      | (go_at_call 16; (with_reducible refine (waits_calls HN1.out).mono ?_); rintro e w' hh; rw [H0.out] at hh; obtain ⟨rfl, rfl⟩ := hh))
    go_ret
    exact ⟨rfl, _, HN1.out, Kp.of_below HN.out.base HB1.out⟩
  · obtain ⟨b, c, rfl⟩ := h.mailcell (by omega)
    obtain ⟨n, hn⟩ : ∃ n, n = S.mail.length := ⟨_, rfl⟩
    obtain ⟨k, hk⟩ : ∃ k, k = (S.mail.filter fun m => !lostQ x m).length := ⟨_, rfl⟩
    have hkn : k ≤ n := by have h1 := List.length_filter_le (fun m => !lostQ x m) S.mail; omega
    have HE := Aside0.mk (show loseF S x = ((n : Int) - (k : Int), { S with mail := S.mail.filter fun m => !lostQ x m }) by rw [loseF, ← hn, ← hk])
    rw [HE.out]
    rw [← hn] at h hlen h0 ⊢
    have HNN := Aside0.mk hn
    have HK := Aside0.mk hk
    have HN := Aside0.mk h
    have HL := Aside0.mk hlen
    have HBL := Aside0.mk (h.own_lt b rfl)
    have HBG := Aside0.mk (show g ≠ b from fun e => h.ne (by rw [e]; rfl))
    have e0 : (0 : Int) < (n : Int) := by omega
    have e1 : decide (0 < n) = true := decide_eq_true (by omega)
    have e2 : n ≤ 1000000 := by omega
    have hf0 := h.frozen 0
    clear h hlen h0 hn hk
    go_enter Try.func30, Try.ntmps30
    go_wp2_with (first
      | ((with_reducible refine gate_dst (N := 3) rfl ?_); refine box_event ?hg (N := 3) ?hd (cs := #[.int .i64 x]) (t := 3) ?hr ?_; (case hd => rfl); (case hg => rfl); (case hr => first | (go_simp; done) | (go_simp; rfl)); intro ge hg w1 hbox hb; have HB1 := Aside0.mk hb; have HN1 := Aside0.mk (HN.out.below hb); have HX1 := Aside0.mk (show w1.cell? ⟨ge, 0, none⟩ = some (.int .i64 x) by rw [blk_cell hbox]; rfl); have HGE := Aside0.mk (show ge ≠ b by have h1 := HBL.out.2; omega); have hc0 := HN1.out.cell0; clear hbox hb hg)
      | (go_at_call 16; (with_reducible refine (waits_calls HN1.out).mono ?_); rintro e w' hh; rw [← HNN.out] at hh; obtain ⟨rfl, rfl⟩ := hh)
      | (go_at_call 49; go_loud ((refine (strike_calls HN1.out HNN.out HL.out ge HGE.out x HX1.out k HK.out).mono ?_); rintro e w2 ⟨rfl, p1, p2, p3⟩; have HDEL := Aside0.mk (HN1.out.lost p1 p2 p3); have hcz := (World.cell?_of_block (a := ⟨g, 0, none⟩) (p2 g HN1.out.lt HBG.out)).trans HN1.out.cell0; have hfz := (World.frozen?_of_block (a := ⟨g, 0, none⟩) (p2 g HN1.out.lt HBG.out)).trans (HN1.out.frozen 0); clear p1 p2 p3 hc0))
      | (go_at_call 16; (with_reducible refine (waits_calls HDEL.out.1).mono ?_); rintro e w' ⟨he, rfl⟩; dsimp only at he; rw [← HK.out] at he; subst he))
    go_ret
    exact ⟨rfl, _, HDEL.out.1, (Kp.of_below HN.out.base HB1.out).trans HDEL.out.2⟩
end Go.Proofs.Ytnggcegfieeonaa.Nx
