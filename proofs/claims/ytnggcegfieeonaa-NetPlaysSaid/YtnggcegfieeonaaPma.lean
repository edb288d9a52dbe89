/- What is proved: Rna, Rnb, Rnc, Rnd: see each part's head. No condition but what each theorem says. -/
import Derived.Test.YtnggcegfieeonaaNoncea
import Derived.Test.YtnggcegfieeonaaNwk
import Derived.ChangeKeysEq
/- What is proved: how the document's network lies in memory, and what keeps it there; what its pair and Is come to. No condition but what each theorem says. -/
namespace Go.Proofs.Ytnggcegfieeonaa.Nx
open Go.RowKit Go.Proofs.YtnggcegfieeonaaW.PrintWords Go.Proofs.YtnggcegfieeonaaW.PrintLast Go.Proofs.YtnggcegfieeonaaW.PrintMore
open Go.Proofs.Ytnggcegfieeonaa.PNetPlays
set_option linter.unusedVariables false
set_option linter.unusedSimpArgs false
def prc (p : Int × Int) : List Value := [.int .i64 p.1, .int .i64 p.2]
theorem prc_one (p : Int × Int) : ∀ u ∈ prc p, u.oneCell' = true := by simp [prc, Value.oneCell']
def kPr : Kd (Int × Int) where
  sz := 2
  E := []
  K := fun _ x cs => cs = prc x
  M := fun _ _ _ x cs => cs = prc x
  K_len := fun h => by rw [h]; rfl
  K_one := fun h => by rw [h]; exact prc_one _
  K_below := fun _ h => h
  K_of_M := fun h => h
  M_mono := fun _ h => h
  M_bound := fun h => h
  M_move := fun _ h => h
  M_lower := fun _ h => h
def pvals (l : List (Int × Int)) : List Value := l.flatMap prc
theorem own_of_mail {w : World} {B : Nat} {ok : Nat → Prop} {v : Value} {xs : List Mail} (h : Kd.R kMail 29 w B ok v xs) : w.ownsRow B 29 5 v xs.length (vals xs) := by
  obtain ⟨_, inner, ho, hr⟩ := h
  have e : inner = vals xs := by
    apply List.ext_getElem?
    intro i
    by_cases hi : i < xs.length * 5
    · have hj : i / 5 < xs.length := by omega
      have h1 : ((inner.drop (i / 5 * 5)).take 5) = (xs[i / 5]).cells := hr.2 (i / 5) _ (List.getElem?_eq_getElem hj)
      have h2 : ((inner.drop (i / 5 * 5)).take 5)[i % 5]? = (xs[i / 5]).cells[i % 5]? := by rw [h1]
      rw [List.getElem?_take, if_pos (by omega), List.getElem?_drop, show i / 5 * 5 + i % 5 = i by omega] at h2
      rw [h2, ← vals_at xs (i / 5) (i % 5) hj (by omega), show i / 5 * 5 + i % 5 = i by omega]
    · rw [List.getElem?_eq_none (by have h1 : inner.length = xs.length * 5 := hr.1; omega), List.getElem?_eq_none (by rw [vals_length]; omega)]
  rw [← e]
  exact ho
theorem mail_of_own {w : World} {B n : Nat} {v : Value} {xs : List Mail} (h : w.ownsRow B 29 5 v n (vals xs)) (hn : xs.length = n) : Kd.R kMail 29 w B (fun _ => True) v xs := by
  subst hn
  refine ⟨fun _ _ => trivial, vals xs, h, vals_length xs, fun j p hj => ?_⟩
  obtain ⟨hlt, he⟩ := List.getElem?_eq_some_iff.1 hj
  show ((vals xs).drop (j * 5)).take 5 = p.cells
  rw [vals_drop, List.drop_eq_getElem_cons hlt, he]
  rfl
theorem pvals_length (l : List (Int × Int)) : (pvals l).length = l.length * 2 := by
  unfold pvals
  induction l with
  | nil => rfl
  | cons m l ih => rw [List.flatMap_cons, List.length_append, ih, List.length_cons]; simp [prc]; omega
theorem pvals_drop (l : List (Int × Int)) (i : Nat) : (pvals l).drop (i * 2) = pvals (l.drop i) := by
  induction l generalizing i with
  | nil => simp [pvals]
  | cons m l ih =>
    cases i with
    | zero => simp [pvals]
    | succ i =>
      rw [List.drop_succ_cons, show pvals (m :: l) = prc m ++ pvals l from rfl, ← ih i, show (i + 1) * 2 = (prc m).length + i * 2 by simp [prc]; omega, List.drop_append]
      simp
theorem pr_of_own {w : World} {B n : Nat} {v : Value} {xs : List (Int × Int)} (h : w.ownsRow B 36 2 v n (pvals xs)) (hn : xs.length = n) : Kd.R kPr 36 w B (fun _ => True) v xs := by
  subst hn
  refine ⟨fun _ _ => trivial, pvals xs, h, pvals_length xs, fun j p hj => ?_⟩
  obtain ⟨hlt, he⟩ := List.getElem?_eq_some_iff.1 hj
  show ((pvals xs).drop (j * 2)).take 2 = prc p
  rw [pvals_drop, List.drop_eq_getElem_cons hlt, he]
  rfl
theorem own_of_pr {w : World} {B : Nat} {ok : Nat → Prop} {v : Value} {xs : List (Int × Int)} (h : Kd.R kPr 36 w B ok v xs) : w.ownsRow B 36 2 v xs.length (pvals xs) := by
  obtain ⟨_, inner, ho, hr⟩ := h
  have e : inner = pvals xs := by
    apply List.ext_getElem?
    intro i
    by_cases hi : i < xs.length * 2
    · have hj : i / 2 < xs.length := by omega
      have h1 : ((inner.drop (i / 2 * 2)).take 2) = prc (xs[i / 2]) := hr.2 (i / 2) _ (List.getElem?_eq_getElem hj)
      have h2 : ((inner.drop (i / 2 * 2)).take 2)[i % 2]? = (prc (xs[i / 2]))[i % 2]? := by rw [h1]
      have h3 : ((pvals xs).drop (i / 2 * 2))[i % 2]? = (prc (xs[i / 2]))[i % 2]? := by
        rw [pvals_drop, List.drop_eq_getElem_cons hj, show pvals (xs[i / 2] :: xs.drop (i / 2 + 1)) = prc xs[i / 2] ++ pvals (xs.drop (i / 2 + 1)) from rfl, List.getElem?_append_left (by simp [prc]; omega)]
      rw [List.getElem?_take, if_pos (by omega), List.getElem?_drop, show i / 2 * 2 + i % 2 = i by omega] at h2
      rw [List.getElem?_drop, show i / 2 * 2 + i % 2 = i by omega] at h3
      rw [h2, h3]
    · rw [List.getElem?_eq_none (by have h1 : inner.length = xs.length * 2 := hr.1; omega), List.getElem?_eq_none (by rw [pvals_length]; omega)]
  rw [← e]
  exact ho
structure RNet where
  mail : List Mail
  last : Int
  prs : List (Int × Int)
/-- The document's network lies at a block. -/
structure RAt (B : Nat) (w : World) (r : Nat) (v u : Value) (R : RNet) : Prop where
  ge : B ≤ r
  row : w.heap[r]? = some (.cells #[v, .int .i64 R.last, u] 49 (0, 0))
  own : Kd.R kMail 29 w B (fun _ => True) v R.mail
  pown : Kd.R kPr 36 w B (fun _ => True) u R.prs
section
variable {B : Nat} {w : World} {r : Nat} {v u : Value} {R : RNet}
theorem RAt.cell0 (h : RAt B w r v u R) : w.cell? ⟨r, 0, none⟩ = some v := by rw [blk_cell h.row]; rfl
theorem RAt.cell1 (h : RAt B w r v u R) : w.cell? ⟨r, 1, none⟩ = some (.int .i64 R.last) := by rw [blk_cell h.row]; rfl
theorem RAt.cell2 (h : RAt B w r v u R) : w.cell? ⟨r, 2, none⟩ = some u := by rw [blk_cell h.row]; rfl
theorem RAt.frozen (h : RAt B w r v u R) (j : Nat) : w.frozen? ⟨r, j, none⟩ = false := blk_frozen h.row j
theorem RAt.lt (h : RAt B w r v u R) : r < w.heap.size := blk_lt h.row
theorem RAt.base (h : RAt B w r v u R) : B ≤ w.heap.size := Nat.le_trans h.ge (Nat.le_of_lt h.lt)
theorem RAt.vne (h : RAt B w r v u R) : some r ≠ v.ownBlock := Kd.R_ne h.own h.row (by decide)
theorem RAt.une (h : RAt B w r v u R) : some r ≠ u.ownBlock := Kd.R_ne h.pown h.row (by decide)
theorem RAt.keep {w' : World} (h : RAt B w r v u R) (hr : w'.heap[r]? = w.heap[r]?) (hv : ∀ b, v.ownBlock = some b → w'.heap[b]? = w.heap[b]?) (hu : ∀ b, u.ownBlock = some b → w'.heap[b]? = w.heap[b]?) : RAt B w' r v u R :=
  ⟨h.ge, hr.trans h.row, Kd.R_mono (Kd.R_move (Kd.R_tight rfl h.own) fun k hk => hv k hk.symm) fun _ _ => trivial, Kd.R_mono (Kd.R_move (Kd.R_tight rfl h.pown) fun k hk => hu k hk.symm) fun _ _ => trivial⟩
theorem RAt.below {w' : World} (h : RAt B w r v u R) (hb : Below w.heap.size w w') : RAt B w' r v u R :=
  h.keep (hb.block r h.lt) (fun b hv => hb.block b (Kd.R_lt h.own b hv)) (fun b hu => hb.block b (Kd.R_lt h.pown b hu))
theorem RAt.drewN (h : RAt B w r v u R) (n : Nat) : RAt B (w.drewN n) r v u R := h.below (pw_below_drewN (Below.refl _ _) n)
theorem RAt.drew (h : RAt B w r v u R) : RAt B w.drew r v u R := h.below (Below.drew (Below.refl _ _))
theorem RAt.alloc (h : RAt B w r v u R) (o : Obj) : RAt B (w.alloc o) r v u R := h.below (Below.alloc (Below.refl _ _) (Nat.le_refl _) o)
/-- The cells of the block are set. -/
theorem RAt.set1 (h : RAt B w r v u R) (x : Int) : RAt B (w.setCell ⟨r, 1, none⟩ (.int .i64 x)) r v u { R with last := x } :=
  ⟨h.ge, blk_set h.row 1 _, Kd.R_mono (Kd.R_far (Kd.R_tight rfl h.own) (fun k hk e => h.vne (by rw [← hk, show k = r from e])) _) fun _ _ => trivial, Kd.R_mono (Kd.R_far (Kd.R_tight rfl h.pown) (fun k hk e => h.une (by rw [← hk, show k = r from e])) _) fun _ _ => trivial⟩
theorem RAt.set0 (h : RAt B w r v u R) (v' : Value) (l : List Mail) (hl : Kd.R kMail 29 w B (fun _ => True) v' l) : RAt B (w.setCell ⟨r, 0, none⟩ v') r v' u { R with mail := l } :=
  ⟨h.ge, blk_set h.row 0 _, Kd.R_mono (Kd.R_far (Kd.R_tight rfl hl) (fun k hk e => Kd.R_ne hl h.row (by decide) (by rw [← hk, show k = r from e])) _) fun _ _ => trivial, Kd.R_mono (Kd.R_far (Kd.R_tight rfl h.pown) (fun k hk e => h.une (by rw [← hk, show k = r from e])) _) fun _ _ => trivial⟩
theorem RAt.set2 (h : RAt B w r v u R) (u' : Value) (l : List (Int × Int)) (hl : Kd.R kPr 36 w B (fun _ => True) u' l) : RAt B (w.setCell ⟨r, 2, none⟩ u') r v u' { R with prs := l } :=
  ⟨h.ge, blk_set h.row 2 _, Kd.R_mono (Kd.R_far (Kd.R_tight rfl h.own) (fun k hk e => h.vne (by rw [← hk, show k = r from e])) _) fun _ _ => trivial, Kd.R_mono (Kd.R_far (Kd.R_tight rfl hl) (fun k hk e => Kd.R_ne hl h.row (by decide) (by rw [← hk, show k = r from e])) _) fun _ _ => trivial⟩
end
/-- What a call that may change the document's network has left as it was. -/
structure Kr (B : Nat) (w : World) (r : Nat) (v u : Value) (w' : World) (v' : Value) : Prop where
  below : Below B w w'
  keep : ∀ i, i < w.heap.size → i ≠ r → some i ≠ v.ownBlock → some i ≠ u.ownBlock → w'.heap[i]? = w.heap[i]?
  own : ∀ b, v'.ownBlock = some b → v.ownBlock = some b ∨ w.heap.size ≤ b
theorem Kr.refl (B : Nat) (w : World) (r : Nat) (v u : Value) : Kr B w r v u w v := ⟨Below.refl _ _, fun _ _ _ _ _ => rfl, fun _ h => .inl h⟩
theorem Kr.of_below {B : Nat} {w w1 : World} {r : Nat} {v u : Value} (hB : B ≤ w.heap.size) (h : Below w.heap.size w w1) : Kr B w r v u w1 v := ⟨h.mono hB, fun i hi _ _ _ => h.block i hi, fun _ h => .inl h⟩
theorem Kr.then_below {B : Nat} {w w1 w2 : World} {r : Nat} {v u v1 : Value} (h : Kr B w r v u w1 v1) (hB : B ≤ w1.heap.size) (k : Below w1.heap.size w1 w2) : Kr B w r v u w2 v1 :=
  ⟨h.below.trans (k.mono hB), fun i hi h1 h2 h3 => (k.block i (Nat.lt_of_lt_of_le hi h.below.size)).trans (h.keep i hi h1 h2 h3), h.own⟩
theorem Kr.set {B : Nat} {w w1 : World} {r : Nat} {v u v1 : Value} (h : Kr B w r v u w1 v1) (hr : B ≤ r) (j : Nat) (x : Value) : Kr B w r v u (w1.setCell ⟨r, j, none⟩ x) v1 :=
  ⟨h.below.setCell hr x, fun i hi h1 h2 h3 => (Below.heap_setCell w1 ⟨r, j, none⟩ x i h1).trans (h.keep i hi h1 h2 h3), h.own⟩
def pairF (a b : Int) : Int × Int := if a > b then (b, a) else (a, b)
def rIs (R : RNet) (a b : Int) : Bool := R.prs.any fun p => p == pairF a b
theorem zero36 (w : World) : (zeroValue 36).run Try.prog w = .ok (.agg #[.int .i64 0, .int .i64 0]) w := by kernel_rfl
/-- A pair is stored into a variable of its own. -/
theorem store_pr {ops : Array Oper} {rest : List Oper} {op : Oper} {a : Act} {w : World} {Q : Exit → Act → World → Prop} (hgd : op.guard = none) (x y : Operand) (ho : op.op = .store 36 x y) (gb : Nat) (cs : Array Value) (hz : cs.size = 2)
    (hx : a.eval x = .pointer (some ⟨gb, 0, none⟩)) (m : Int × Int) (hy : a.eval y = .agg #[.int .i64 m.1, .int .i64 m.2]) (hrow : w.heap[gb]? = some (.cells cs 36 (0, 0)))
    (h : ∀ w', w'.heap[gb]? = some (.cells (prc m).toArray 36 (0, 0)) → (∀ i, i ≠ gb → w'.heap[i]? = w.heap[i]?) → Below gb w w' → wpList Try.prog ops Q rest (a.put op.dst undef) w') : wpList Try.prog ops Q (op :: rest) a w := by
  have hth : w.there gb 0 (prc m).toArray.size := fun j hj => by
    have hj5 : j < 2 := hj
    rw [Nat.zero_add]
    exact ⟨by rw [cell_of_row w gb j cs 36 (0, 0) hrow, Array.getElem?_eq_getElem (by omega)]; rfl, blk_frozen hrow j⟩
  refine wpList_store_mid hgd 36 x y ho gb 0 (prc m).toArray hx hy hth (by kernel_rfl) (by simp [prc, Value.oneCell']) ?_
  obtain ⟨cs', h1, h2, _, h4⟩ := setCells_row gb 36 (prc m) w 0 cs hrow
  have he : cs' = (prc m).toArray := by
    apply Array.ext_getElem?
    intro i
    by_cases hi : i < 2
    · have := h4 i hi (by omega)
      rw [Nat.zero_add] at this
      rw [this, List.getElem?_toArray]
    · rw [Array.getElem?_eq_none (by omega), Array.getElem?_eq_none (by show 2 ≤ i; omega)]
  exact h _ (by rw [he] at h1; exact h1) (fun i hi => setCells_far gb (prc m) w 0 i hi) (setCells_below gb gb (Nat.le_refl _) (prc m) w w 0 (Below.refl _ _))
set_option maxHeartbeats 8000000 in
set_option maxRecDepth 100000 in
theorem pair_calls (w : World) (a b : Int) : Calls Try.prog 48 #[.int .i64 a, .int .i64 b] w fun e w' => e = .returned (.agg #[.int .i64 (pairF a b).1, .int .i64 (pairF a b).2]) ∧ Below w.heap.size w w' := by
  have hu36 := Try.underlying36
  have hz := zero36
  by_cases h : a > b
  · have hd : decide (b < a) = true := decide_eq_true h
    have HE := Aside0.mk (show pairF a b = (b, a) by rw [pairF, if_pos h])
    clear h
    go_enter Try.func48, Try.ntmps48
    go_wp2_with (first
      | ((with_reducible refine gate_dst (N := 4) rfl ?_); refine box_event ?hg (N := 4) ?hd (cs := #[.int .i64 0, .int .i64 0]) (t := 36) ?hr ?_; (case hd => rfl); (case hg => rfl); (case hr => first | (go_simp; done) | (go_simp; rfl)); intro gb hg w1 hbox hb; have HB1 := Aside0.mk hb; have HG1 := Aside0.mk hg; have HX1 := Aside0.mk hbox; clear hbox hb hg)
      | (refine store_pr rfl (.tmp 4) (.tmp 10) rfl gb _ (by rfl) rfl (b, a) (by rfl) HX1.out ?_; intro w2 hx2 hfar2 hb2; have HX2 := Aside0.mk hx2; have HB2 := Aside0.mk (HB1.out.trans (hb2.mono (Nat.le_of_eq HG1.out.symm))); clear hx2 hfar2 hb2))
    (try simp only [Act.put, List.setIfInBounds_toArray, List.set_cons_zero, List.set_cons_succ])
    go_wp2
    refine bodyPost_ret (results_cell_row rfl _ _ gb 36 (prc (b, a)).toArray (0, 0) _ rfl HX2.out Try.underlying36 rfl (by kernel_rfl)) rfl ?_
    exact ⟨by rw [HE.out]; rfl, HB2.out⟩
  · have hd : decide (b < a) = false := decide_eq_false h
    have HE := Aside0.mk (show pairF a b = (a, b) by rw [pairF, if_neg h])
    clear h
    go_enter Try.func48, Try.ntmps48
    go_wp2_with (first
      | ((with_reducible refine gate_dst (N := 4) rfl ?_); refine box_event ?hg (N := 4) ?hd (cs := #[.int .i64 0, .int .i64 0]) (t := 36) ?hr ?_; (case hd => rfl); (case hg => rfl); (case hr => first | (go_simp; done) | (go_simp; rfl)); intro gb hg w1 hbox hb; have HB1 := Aside0.mk hb; have HG1 := Aside0.mk hg; have HX1 := Aside0.mk hbox; clear hbox hb hg)
      | (refine store_pr rfl (.tmp 4) (.tmp 13) rfl gb _ (by rfl) rfl (a, b) (by rfl) HX1.out ?_; intro w2 hx2 hfar2 hb2; have HX2 := Aside0.mk hx2; have HB2 := Aside0.mk (HB1.out.trans (hb2.mono (Nat.le_of_eq HG1.out.symm))); clear hx2 hfar2 hb2))
    (try simp only [Act.put, List.setIfInBounds_toArray, List.set_cons_zero, List.set_cons_succ])
    go_wp2
    refine bodyPost_ret (results_cell_row rfl _ _ gb 36 (prc (a, b)).toArray (0, 0) _ rfl HX2.out Try.underlying36 rfl (by kernel_rfl)) rfl ?_
    exact ⟨by rw [HE.out]; rfl, HB2.out⟩
theorem part0 (x y : Int) (W : World) : (part 3 #[.int .i64 x, .int .i64 y] 0).run Try.prog W = .ok (.int .i64 x) W := by kernel_rfl
theorem part1 (x y : Int) (W : World) : (part 3 #[.int .i64 x, .int .i64 y] 1).run Try.prog W = .ok (.int .i64 y) W := by kernel_rfl
theorem equal36 (W : World) (a b c d : Int) : (Op.equalIn 10000 36 (.agg #[.int .i64 a, .int .i64 b]) (.agg #[.int .i64 c, .int .i64 d])).run Try.prog W = .ok (a == c && b == d) W := by
  obtain ⟨i0, hi0, _⟩ := info_parts info3
  have hc : Try.prog.cellsOf 3 = 1 := by kernel_rfl
  rw [run_equalIn_array W 9999 _ _ Try.underlying36 hi0, hc]
  show (Op.eqItems 9999 3 1 _ _ [0, 1]).run Try.prog W = _
  simp only [Op.eqItems, Sem.run_bind, Nat.mul_one, part0, Result.andThen_ok, run_equalIn_int W 9998 3 .i64 .i64 _ _ Try.underlying3]
  by_cases h1 : a = c <;> by_cases h2 : b = d <;> simp [h1, h2, part1, run_equalIn_int W 9998 3 .i64 .i64 _ _ Try.underlying3]
theorem eql36 (W : World) (a b c d : Int) : (binOp .eql 36 (.agg #[.int .i64 a, .int .i64 b]) (.agg #[.int .i64 c, .int .i64 d])).run Try.prog W = .ok (.bool (a == c && b == d)) W := by
  rw [run_eql_struct, equal36]
  rfl
theorem neq36 (W : World) (a b c d : Int) : (binOp .neq 36 (.agg #[.int .i64 a, .int .i64 b]) (.agg #[.int .i64 c, .int .i64 d])).run Try.prog W = .ok (.bool (!(a == c && b == d))) W := by
  rw [run_neq_struct, equal36]
  rfl
theorem part29 (m : Mail) (W : World) : (part 3 #[.int .i64 m.id, .int .i64 m.frm, .int .i64 m.to_, .string m.body, .int .i64 m.age] 0).run Try.prog W = .ok (.int .i64 m.id) W ∧ (part 3 #[.int .i64 m.id, .int .i64 m.frm, .int .i64 m.to_, .string m.body, .int .i64 m.age] 1).run Try.prog W = .ok (.int .i64 m.frm) W ∧ (part 3 #[.int .i64 m.id, .int .i64 m.frm, .int .i64 m.to_, .string m.body, .int .i64 m.age] 2).run Try.prog W = .ok (.int .i64 m.to_) W ∧ (part 9 #[.int .i64 m.id, .int .i64 m.frm, .int .i64 m.to_, .string m.body, .int .i64 m.age] 3).run Try.prog W = .ok (.string m.body) W ∧ (part 3 #[.int .i64 m.id, .int .i64 m.frm, .int .i64 m.to_, .string m.body, .int .i64 m.age] 4).run Try.prog W = .ok (.int .i64 m.age) W := ⟨by kernel_rfl, by kernel_rfl, by kernel_rfl, by kernel_rfl, by kernel_rfl⟩
def eqM (m n : Mail) : Bool := m.id == n.id && (m.frm == n.frm && (m.to_ == n.to_ && (m.body.toList == n.body.toList && m.age == n.age)))
theorem eqM_self (m : Mail) : eqM m m = true := by simp [eqM]
theorem equal29 (m n : Mail) (W : World) : (Op.equalIn 10000 29 (.agg #[.int .i64 m.id, .int .i64 m.frm, .int .i64 m.to_, .string m.body, .int .i64 m.age]) (.agg #[.int .i64 n.id, .int .i64 n.frm, .int .i64 n.to_, .string n.body, .int .i64 n.age])).run Try.prog W = .ok (eqM m n) W := by
  obtain ⟨a0, a1, a2, a3, a4⟩ := part29 m W
  obtain ⟨b0, b1, b2, b3, b4⟩ := part29 n W
  exact eqA_of Try.underlying29 (by kernel_rfl) (eqf_cons rfl a0 b0 (run_equalIn_int W 9998 3 .i64 .i64 _ _ Try.underlying3) (eqf_cons rfl a1 b1 (run_equalIn_int W 9998 3 .i64 .i64 _ _ Try.underlying3) (eqf_cons rfl a2 b2 (run_equalIn_int W 9998 3 .i64 .i64 _ _ Try.underlying3) (eqf_cons rfl a3 b3 (run_equalIn_string W 9998 9 _ _ Try.underlying9) (eqf_last rfl a4 b4 (run_equalIn_int W 9998 3 .i64 .i64 _ _ Try.underlying3))))))
theorem eql29 (m n : Mail) (W : World) : (binOp .eql 29 (.agg #[.int .i64 m.id, .int .i64 m.frm, .int .i64 m.to_, .string m.body, .int .i64 m.age]) (.agg #[.int .i64 n.id, .int .i64 n.frm, .int .i64 n.to_, .string n.body, .int .i64 n.age])).run Try.prog W = .ok (.bool (eqM m n)) W := by
  rw [run_eql_struct, equal29]
  rfl
theorem neq29 (m n : Mail) (W : World) : (binOp .neq 29 (.agg #[.int .i64 m.id, .int .i64 m.frm, .int .i64 m.to_, .string m.body, .int .i64 m.age]) (.agg #[.int .i64 n.id, .int .i64 n.frm, .int .i64 n.to_, .string n.body, .int .i64 n.age])).run Try.prog W = .ok (.bool (!eqM m n)) W := by
  rw [run_neq_struct, equal29]
  rfl
end Go.Proofs.Ytnggcegfieeonaa.Nx
/- What is proved: what the document's Is comes to. No condition but what each theorem says. -/
namespace Go.Proofs.Ytnggcegfieeonaa.Nx
open Go.RowKit Go.Proofs.YtnggcegfieeonaaW.PrintWords Go.Proofs.YtnggcegfieeonaaW.PrintLast Go.Proofs.YtnggcegfieeonaaW.PrintMore
open Go.Proofs.Ytnggcegfieeonaa.PNetPlays
set_option linter.unusedVariables false
set_option linter.unusedSimpArgs false
theorem R_prat {w : World} {base b n c : Nat} {ok : Nat → Prop} {xs : List (Int × Int)} (h : Kd.R kPr 36 w base ok (.slice (some ⟨b, 0, none⟩) n c) xs) (i : Nat) (hi : i < xs.length) : w.cell? ⟨b, i * 2, none⟩ = some (.int .i64 (xs.getD i (0, 0)).1) ∧ w.cell? ⟨b, i * 2 + 1, none⟩ = some (.int .i64 (xs.getD i (0, 0)).2) := by
  obtain ⟨ad, cs, ea, _, hk, hc⟩ := Kd.C_get (Kd.R_reads' h).2.2 (0, 0) (i : Int) (Int.natCast_nonneg _) (by omega)
  injection ea with ea
  subst ea
  rw [Int.toNat_natCast] at hk hc
  have hk' : cs = prc (xs.getD i (0, 0)) := hk
  subst hk'
  have h0 := hc 0 _ rfl
  have h1 := hc 1 _ rfl
  rw [add_plain] at h0 h1
  exact ⟨h0, h1⟩
theorem pairEq (p q : Int × Int) : (p.1 == q.1 && p.2 == q.2) = (p == q) := rfl
theorem any_take (l : List (Int × Int)) (f : Int × Int → Bool) (i : Nat) (hi : i < l.length) : (l.take (i + 1)).any f = ((l.take i).any f || f (l.getD i (0, 0))) := by
  rw [List.take_add_one, List.getElem?_eq_getElem hi, List.any_append, List.getD_eq_getElem?_getD, List.getElem?_eq_getElem hi]
  simp
set_option maxHeartbeats 8000000 in
set_option maxRecDepth 100000 in
theorem is_calls {B : Nat} {w : World} {r : Nat} {v u : Value} {R : RNet} (h : RAt B w r v u R) (hl : R.prs.length < 1000000) (a b : Int) :
    Calls Try.prog 35 #[.pointer (some ⟨r, 0, none⟩), .int .i64 a, .int .i64 b] w fun e w' => e = .returned (.bool (rIs R a b)) ∧ Below w.heap.size w w' := by
  have hu49 := Try.underlying49
  have hu36 := Try.underlying36
  obtain ⟨A, c, e2⟩ := Kd.R_slice h.pown
  subst e2
  have HN := Aside0.mk h
  have HL := Aside0.mk hl
  obtain ⟨n, hn⟩ : ∃ n, n = R.prs.length := ⟨_, rfl⟩
  rw [← hn] at HN
  have HNN := Aside0.mk hn
  obtain ⟨q0, q1, hq⟩ : ∃ q0 q1, pairF a b = (q0, q1) := ⟨_, _, rfl⟩
  have HQ := Aside0.mk hq
  clear h hl hn hq
  go_enter Try.func35, Try.ntmps35
  go_wp2
  go_loopg [7] n (fun kq v7 wl => ∃ i : Nat, v7 = .int .i64 (i : Int) ∧ Aside0 (kq + i = n) ∧ Aside0 ((R.prs.take i).any (fun p => p == pairF a b) = false) ∧ Aside0 (Below w.heap.size w wl))
  case atStart => exact ⟨0, rfl, ⟨rfl⟩, ⟨rfl⟩, ⟨Below.refl _ _⟩⟩
  case round =>
    obtain ⟨i, rfl, HI, HA, HB⟩ := hrel
    have HN2 := Aside0.mk (HN.out.below HB.out)
    have hc2 := HN2.out.cell2
    by_cases hlt : i < n
    · have f1 : decide ((i : Int) < (n : Int)) = true := decide_eq_true (by omega)
      have f2 : decide (i < n) = true := decide_eq_true hlt
      have f3 : (0 : Int) ≤ (i : Int) := Int.natCast_nonneg _
      have f4 : (i : Int) < (n : Int) := by omega
      obtain ⟨bb, cc, e2, _⟩ := R_plain HN2.out.pown (by have h1 := HNN.out; omega)
      injection e2 with e21 e22 e23
      subst e21
      obtain ⟨x0, x1⟩ := R_prat HN2.out.pown i (by have h1 := HNN.out; omega)
      obtain ⟨p, hp⟩ : ∃ p, p = R.prs.getD i (0, 0) := ⟨_, rfl⟩
      rw [← hp] at x0 x1
      have HT := Aside0.mk (any_take R.prs (fun p => p == pairF a b) i (by have h1 := HNN.out; omega))
      rw [← hp] at HT
      have heq := eql36 (a := p.1) (b := p.2) (c := q0) (d := q1)
      have HLT := Aside0.mk hlt
      clear hp hlt e22 e23
      go_upto_region 4 with (fail)
      go_cut [27] (fun v27 wc => v27 = .bool (p.1 == q0 && p.2 == q1) ∧ Aside0 (Below wr.heap.size wr wc))
      case first =>
        go_region_with (first
          | (go_at_call 48; ((with_reducible refine (pair_calls _ a b).mono ?_); rintro e w2 ⟨he, hb⟩; rw [HQ.out] at he; dsimp only at he; subst he; have HB2 := Aside0.mk hb; have y0 := pw_cell_below hb (show World.cell? _ _ = _ from x0); have y1 := pw_cell_below hb (show World.cell? _ _ = _ from x1); have yc := pw_cell_below hb (show World.cell? _ _ = _ from hc2); clear hb)))
        all_goals
          go_wp2
          go_meet
          case rel => exact ⟨rfl, ⟨(Below.drew (Below.refl _ _)).trans HB2.out⟩⟩
      case rest =>
        obtain ⟨rfl, HBW⟩ := hcut
        have HB2 := Aside0.mk (HB.out.trans (HBW.out.mono HB.out.size))
        have HPE := Aside0.mk (show (p.1 == q0 && p.2 == q1) = (p == pairF a b) by rw [HQ.out]; rfl)
        clear x0 x1 hc2 heq
        by_cases hm : (p.1 == q0 && p.2 == q1) = true
        · have HR := Aside0.mk (show rIs R a b = true by
            have h1 := HT.out
            rw [← HPE.out, hm, Bool.or_true] at h1
            obtain ⟨x, hx1, hx2⟩ := List.any_eq_true.1 h1
            exact List.any_eq_true.2 ⟨x, List.mem_of_mem_take hx1, hx2⟩)
          rw [hm]
          clear hm
          go_wp2
          go_ret
          exact ⟨by rw [HR.out]; rfl, HB2.out⟩
        · rw [Bool.not_eq_true] at hm
          have HR := Aside0.mk (show (R.prs.take (i + 1)).any (fun p => p == pairF a b) = false by rw [HT.out, HA.out, ← HPE.out, hm]; rfl)
          rw [hm]
          clear hm
          have HE := Aside0.mk (show wrap64 ((i : Int) + 1) = ((i + 1 : Nat) : Int) by have h1 := HNN.out; have h2 := HL.out; have h3 := HLT.out; rw [wrap64]; omega)
          go_wp2
          go_roundg (gk - 1)
          case measure => have h1 := HI.out; have h2 := HLT.out; omega
          case rel => exact ⟨i + 1, by have h := HE.out; rw [h], ⟨by have h1 := HI.out; have h2 := HLT.out; omega⟩, HR, HB2⟩
    · have f1 : decide ((i : Int) < (n : Int)) = false := decide_eq_false (by omega)
      have f2 : decide (i < n) = false := decide_eq_false hlt
      have HR := Aside0.mk (show rIs R a b = false by
        have h1 := HA.out
        rw [List.take_of_length_le (by have h1 := HNN.out; omega)] at h1
        exact h1)
      clear hlt
      go_wp2
      go_ret
      exact ⟨by rw [HR.out]; rfl, HB.out⟩
end Go.Proofs.Ytnggcegfieeonaa.Nx
/- What is proved: what the document's Ready and without come to. No condition but what each theorem says. -/
namespace Go.Proofs.Ytnggcegfieeonaa.Nx
open Go.RowKit Go.Proofs.YtnggcegfieeonaaW.PrintWords Go.Proofs.YtnggcegfieeonaaW.PrintLast Go.Proofs.YtnggcegfieeonaaW.PrintMore
open Go.Proofs.Ytnggcegfieeonaa.PNetPlays
set_option linter.unusedVariables false
set_option linter.unusedSimpArgs false
theorem filter_take (l : List Mail) (q : Mail → Bool) (i : Nat) (hi : i < l.length) : (l.take (i + 1)).filter q = (l.take i).filter q ++ if q (l.getD i zeroMail) = true then [l.getD i zeroMail] else [] := by
  rw [List.take_add_one, List.getElem?_eq_getElem hi, List.filter_append, List.getD_eq_getElem?_getD, List.getElem?_eq_getElem hi]
  congr 1
  show List.filter q [l[i]] = _
  rw [List.filter_cons]
  rfl
theorem filter_small (l : List Mail) (q : Mail → Bool) (i : Nat) : ((l.take i).filter q).length ≤ i := by
  have h1 := List.length_filter_le q (l.take i)
  rw [List.length_take] at h1
  omega
def rReady (R : RNet) : List Mail := R.mail.filter fun m => !rIs R m.frm m.to_
set_option maxHeartbeats 8000000 in
set_option maxRecDepth 100000 in
theorem rReady_calls {B : Nat} {w : World} {r : Nat} {v u : Value} {R : RNet} (h : RAt B w r v u R) (hl : R.prs.length < 1000000) (hm : R.mail.length < 1000000) :
    Calls Try.prog 33 #[.pointer (some ⟨r, 0, none⟩)] w fun e w' => ∃ v0, e = .returned v0 ∧ Kd.R kMail 29 w' w.heap.size (fun _ => True) v0 (rReady R) ∧ Below w.heap.size w w' := by
  have hu49 := Try.underlying49
  have hu29 := Try.underlying29
  obtain ⟨A, c, e0⟩ := Kd.R_slice h.own
  subst e0
  have HN := Aside0.mk h
  have HL := Aside0.mk hl
  have HM := Aside0.mk hm
  obtain ⟨n, hn⟩ : ∃ n, n = R.mail.length := ⟨_, rfl⟩
  rw [← hn] at HN
  have HNN := Aside0.mk hn
  clear h hl hm hn
  go_enter Try.func33, Try.ntmps33
  go_wp2
  go_loopg [3, 4] n (fun kq v3 v4 wl => ∃ i : Nat, v4 = .int .i64 (i : Int) ∧ Aside0 (kq + i = n) ∧ Aside0 (Kd.R kMail 29 wl w.heap.size (fun _ => True) v3 ((R.mail.take i).filter fun m => !rIs R m.frm m.to_)) ∧ Aside0 (Below w.heap.size w wl))
  case atStart => exact ⟨0, rfl, ⟨rfl⟩, ⟨Kd.R_nil _ _ _ _ _⟩, ⟨Below.refl _ _⟩⟩
  case round =>
    obtain ⟨i, rfl, HI, HO, HB⟩ := hrel
    have HN2 := Aside0.mk (HN.out.below HB.out)
    have hc0 := HN2.out.cell0
    by_cases hlt : i < n
    · have f1 : decide ((i : Int) < (n : Int)) = true := decide_eq_true (by omega)
      have f2 : decide (i < n) = true := decide_eq_true hlt
      have f3 : (0 : Int) ≤ (i : Int) := Int.natCast_nonneg _
      have f4 : (i : Int) < (n : Int) := by omega
      obtain ⟨bb, cc, e0, _⟩ := R_plain HN2.out.own (by have h1 := HNN.out; omega)
      injection e0 with e01 e02 e03
      subst e01
      have hin : i < R.mail.length := by have h1 := HNN.out; omega
      obtain ⟨m, hm⟩ : ∃ m, m = R.mail.getD i zeroMail := ⟨_, rfl⟩
      have x0 := R_mailat HN2.out.own i 0 hin (.int .i64 m.id) (by rw [hm]; rfl)
      rw [Nat.add_zero] at x0
      have x1 := R_mailat HN2.out.own i 1 hin (.int .i64 m.frm) (by rw [hm]; rfl)
      have x2 := R_mailat HN2.out.own i 2 hin (.int .i64 m.to_) (by rw [hm]; rfl)
      have x3 := R_mailat HN2.out.own i 3 hin (.string m.body) (by rw [hm]; rfl)
      have x4 := R_mailat HN2.out.own i 4 hin (.int .i64 m.age) (by rw [hm]; rfl)
      have HT := Aside0.mk (filter_take R.mail (fun m => !rIs R m.frm m.to_) i hin)
      rw [← hm] at HT
      have HLT := Aside0.mk hlt
      obtain ⟨s, hs⟩ : ∃ s, s = rIs R m.frm m.to_ := ⟨_, rfl⟩
      rw [← hs] at HT
      have HS := Aside0.mk hs
      clear hm hs hlt e02 e03 hin
      go_upto_region 5 with (fail)
      go_cut [5] (fun v5 wc => v5 = .bool s ∧ Aside0 (Below wr.heap.size wr wc))
      case first =>
        go_region_with (first
          | (go_at_call 35; ((with_reducible refine (is_calls HN2.out.drew HL.out m.frm m.to_).mono ?_); rintro e w2 ⟨he, hb⟩; rw [← HS.out] at he; subst he; have HB2 := Aside0.mk hb; clear hb)))
        all_goals
          go_wp2
          go_meet
          case rel => exact ⟨rfl, ⟨(Below.drew (Below.refl _ _)).trans HB2.out⟩⟩
      case rest =>
        obtain ⟨rfl, HBW⟩ := hcut
        have HB2 := Aside0.mk (HB.out.trans (HBW.out.mono HB.out.size))
        have HO2 := Aside0.mk (Kd.R_below HO.out HBW.out)
        have HE := Aside0.mk (show wrap64 ((i : Int) + 1) = ((i + 1 : Nat) : Int) by have h1 := HNN.out; have h2 := HM.out; have h3 := HLT.out; rw [wrap64]; omega)
        have yc := pw_cell_below HBW.out hc0
        have y0 := pw_cell_below HBW.out x0
        have y1 := pw_cell_below HBW.out x1
        have y2 := pw_cell_below HBW.out x2
        have y3 := pw_cell_below HBW.out x3
        have y4 := pw_cell_below HBW.out x4
        clear hc0 x0 x1 x2 x3 x4
        cases s with
        | true =>
          have HF := HT.out
          rw [if_neg (by simp), List.append_nil] at HF
          have HF2 := Aside0.mk HF
          clear HF
          go_wp2
          go_roundg (gk - 1)
          case measure => have h1 := HI.out; have h2 := HLT.out; omega
          case rel => exact ⟨i + 1, by have h := HE.out; rw [h], ⟨by have h1 := HI.out; have h2 := HLT.out; omega⟩, ⟨by rw [HF2.out]; exact HO2.out⟩, HB2⟩
        | false =>
          have HF := HT.out
          rw [if_pos (by simp)] at HF
          have HF2 := Aside0.mk HF
          clear HF
          go_wp2_with (first
            | ((with_reducible refine gate_builtin (b := .append) (xs := #[.tmp 35, .tmp 43]) rfl ?_); at_builtin; refine Kd.R_append kMail (w0 := w) w.heap.size rfl (.tmp 35) (.tmp 43) 43 29 _ 48 rfl Try.underlying43 info29 rfl (by decide) (by omega) _ ((R.mail.take i).filter fun m => !rIs R m.frm m.to_) m m.cells (fun _ => True) (fun _ => False) rfl rfl ?aP (fun _ hk => hk.elim) ?aF ?aO ?aB ?aS ?aL ?_; (case aP => exact rfl); (case aB => exact HB2.out); (case aF => exact (fun _ _ => trivial)); (case aO => exact HO2.out); (case aS => exact HB2.out.size); (case aL => have h0 := filter_small R.mail (fun m => !rIs R m.frm m.to_) i; have h1 := HM.out; have h2 := HNN.out; have h3 := HLT.out; omega); intro v8 w8 ho hb hg hat; have HO5 := Aside0.mk ho; have HB5 := Aside0.mk hb; clear ho hb hg hat))
          go_roundg (gk - 1)
          case measure => have h1 := HI.out; have h2 := HLT.out; omega
          case rel => exact ⟨i + 1, by have h := HE.out; rw [h], ⟨by have h1 := HI.out; have h2 := HLT.out; omega⟩, ⟨by rw [HF2.out]; exact HO5.out⟩, HB5⟩
    · have f1 : decide ((i : Int) < (n : Int)) = false := decide_eq_false (by omega)
      have f2 : decide (i < n) = false := decide_eq_false hlt
      have HR := Aside0.mk (show (R.mail.take i).filter (fun m => !rIs R m.frm m.to_) = rReady R by rw [List.take_of_length_le (by have h1 := HNN.out; omega)]; rfl)
      clear hlt
      go_wp2
      go_ret
      exact ⟨_, rfl, by rw [← HR.out]; exact HO.out, HB.out⟩
def rWithout (R : RNet) (id : Int) : RNet := { R with mail := R.mail.filter fun m => m.id != id }
set_option maxHeartbeats 8000000 in
set_option maxRecDepth 100000 in
theorem without_calls {B : Nat} {w : World} {r : Nat} {v u : Value} {R : RNet} (h : RAt B w r v u R) (hm : R.mail.length < 1000000) (id : Int) :
    Calls Try.prog 46 #[.pointer (some ⟨r, 0, none⟩), .int .i64 id] w fun e w' => e = .returned (.tuple #[]) ∧ ∃ v', RAt B w' r v' u (rWithout R id) ∧ Kr B w r v u w' v' := by
  have hu49 := Try.underlying49
  have hu29 := Try.underlying29
  obtain ⟨A, c, e0⟩ := Kd.R_slice h.own
  subst e0
  have HN := Aside0.mk h
  have HM := Aside0.mk hm
  obtain ⟨n, hn⟩ : ∃ n, n = R.mail.length := ⟨_, rfl⟩
  rw [← hn] at HN ⊢
  have HNN := Aside0.mk hn
  clear h hm hn
  go_enter Try.func46, Try.ntmps46
  go_wp2
  go_loopg [4, 5] n (fun kq v4 v5 wl => ∃ i : Nat, v5 = .int .i64 (i : Int) ∧ Aside0 (kq + i = n) ∧ Aside0 (Kd.R kMail 29 wl w.heap.size (fun _ => True) v4 ((R.mail.take i).filter fun m => m.id != id)) ∧ Aside0 (Below w.heap.size w wl))
  case atStart => exact ⟨0, rfl, ⟨rfl⟩, ⟨Kd.R_nil _ _ _ _ _⟩, ⟨Below.refl _ _⟩⟩
  case round =>
    obtain ⟨i, rfl, HI, HO, HB⟩ := hrel
    have HN2 := Aside0.mk (HN.out.below HB.out)
    have hc0 := HN2.out.cell0
    by_cases hlt : i < n
    · have f1 : decide ((i : Int) < (n : Int)) = true := decide_eq_true (by omega)
      have f2 : decide (i < n) = true := decide_eq_true hlt
      have f3 : (0 : Int) ≤ (i : Int) := Int.natCast_nonneg _
      have f4 : (i : Int) < (n : Int) := by omega
      obtain ⟨bb, cc, e0, _⟩ := R_plain HN2.out.own (by have h1 := HNN.out; omega)
      injection e0 with e01 e02 e03
      subst e01
      have hin : i < R.mail.length := by have h1 := HNN.out; omega
      obtain ⟨m, hm⟩ : ∃ m, m = R.mail.getD i zeroMail := ⟨_, rfl⟩
      have x0 := R_mailat HN2.out.own i 0 hin (.int .i64 m.id) (by rw [hm]; rfl)
      rw [Nat.add_zero] at x0
      have x1 := R_mailat HN2.out.own i 1 hin (.int .i64 m.frm) (by rw [hm]; rfl)
      have x2 := R_mailat HN2.out.own i 2 hin (.int .i64 m.to_) (by rw [hm]; rfl)
      have x3 := R_mailat HN2.out.own i 3 hin (.string m.body) (by rw [hm]; rfl)
      have x4 := R_mailat HN2.out.own i 4 hin (.int .i64 m.age) (by rw [hm]; rfl)
      have HT := Aside0.mk (filter_take R.mail (fun m => m.id != id) i hin)
      rw [← hm] at HT
      have HLT := Aside0.mk hlt
      have HE := Aside0.mk (show wrap64 ((i : Int) + 1) = ((i + 1 : Nat) : Int) by have h1 := HNN.out; have h2 := HM.out; rw [wrap64]; omega)
      clear hm hlt e02 e03 hin
      cases hs : (m.id != id) with
      | false =>
        have HF := HT.out
        rw [hs, if_neg (by simp), List.append_nil] at HF
        have HF2 := Aside0.mk HF
        clear HF
        go_wp2
        go_roundg (gk - 1)
        case measure => have h1 := HI.out; have h2 := HLT.out; omega
        case rel => exact ⟨i + 1, by have h := HE.out; rw [h], ⟨by have h1 := HI.out; have h2 := HLT.out; omega⟩, ⟨by rw [HF2.out]; exact HO.out⟩, HB⟩
      | true =>
        have HF := HT.out
        rw [hs, if_pos rfl] at HF
        have HF2 := Aside0.mk HF
        clear HF
        go_wp2_with (first
          | ((with_reducible refine gate_builtin (b := .append) (xs := #[.tmp 25, .tmp 33]) rfl ?_); at_builtin; refine Kd.R_append kMail (w0 := w) w.heap.size rfl (.tmp 25) (.tmp 33) 43 29 _ 48 rfl Try.underlying43 info29 rfl (by decide) (by omega) _ ((R.mail.take i).filter fun m => m.id != id) m m.cells (fun _ => True) (fun _ => False) rfl rfl ?aP (fun _ hk => hk.elim) ?aF ?aO ?aB ?aS ?aL ?_; (case aP => exact rfl); (case aB => exact HB.out); (case aF => exact (fun _ _ => trivial)); (case aO => exact HO.out); (case aS => exact HB.out.size); (case aL => have h0 := filter_small R.mail (fun m => m.id != id) i; have h1 := HM.out; have h2 := HNN.out; have h3 := HLT.out; omega); intro v8 w8 ho hb hg hat; have HO5 := Aside0.mk ho; have HB5 := Aside0.mk hb; clear ho hb hg hat))
        go_roundg (gk - 1)
        case measure => have h1 := HI.out; have h2 := HLT.out; omega
        case rel => exact ⟨i + 1, by have h := HE.out; rw [h], ⟨by have h1 := HI.out; have h2 := HLT.out; omega⟩, ⟨by rw [HF2.out]; exact HO5.out⟩, HB5⟩
    · have f1 : decide ((i : Int) < (n : Int)) = false := decide_eq_false (by omega)
      have f2 : decide (i < n) = false := decide_eq_false hlt
      have HR := Aside0.mk (show (R.mail.take i).filter (fun m => m.id != id) = R.mail.filter (fun m => m.id != id) by rw [List.take_of_length_le (by have h1 := HNN.out; omega)])
      have hf0 := HN2.out.frozen 0
      have hO2 := HO.out
      rw [HR.out] at hO2
      obtain ⟨A4, c4, e4⟩ := Kd.R_slice hO2
      subst e4
      have HO2 := Aside0.mk hO2
      clear hlt hO2
      go_wp2
      go_end0
      refine ⟨rfl, _, HN2.out.set0 _ _ (Kd.R_lower HO2.out HN.out.base), ?_⟩
      exact ⟨(HB.out.mono HN.out.base).setCell HN.out.ge _, fun k hk h1 h2 h3 => (Below.heap_setCell wr ⟨r, 0, none⟩ _ k h1).trans (HB.out.block k hk), fun b e => .inr (Kd.R_base HO2.out b e)⟩
end Go.Proofs.Ytnggcegfieeonaa.Nx
/- What is proved: what the document's Oldest, Lose and Tick come to. No condition but what each theorem says. -/
namespace Go.Proofs.Ytnggcegfieeonaa.Nx
open Go.RowKit Go.Proofs.YtnggcegfieeonaaW.PrintWords Go.Proofs.YtnggcegfieeonaaW.PrintLast Go.Proofs.YtnggcegfieeonaaW.PrintMore
open Go.Proofs.Ytnggcegfieeonaa.PNetPlays
set_option linter.unusedVariables false
set_option linter.unusedSimpArgs false
def rOldI (l : List Mail) : Nat → Int
  | 0 => 0
  | i + 1 => if rOldI l i < (l.getD i zeroMail).age then (l.getD i zeroMail).age else rOldI l i
set_option maxHeartbeats 8000000 in
set_option maxRecDepth 100000 in
theorem rOldest_calls {B : Nat} {w : World} {r : Nat} {v u : Value} {R : RNet} (h : RAt B w r v u R) (hm : R.mail.length < 1000000) :
    Calls Try.prog 34 #[.pointer (some ⟨r, 0, none⟩)] w fun e w' => e = .returned (.int .i64 (rOldI R.mail R.mail.length)) ∧ w' = w := by
  have hu49 := Try.underlying49
  have hu29 := Try.underlying29
  obtain ⟨A, c, e0⟩ := Kd.R_slice h.own
  subst e0
  have HN := Aside0.mk h
  have HM := Aside0.mk hm
  obtain ⟨n, hn⟩ : ∃ n, n = R.mail.length := ⟨_, rfl⟩
  rw [← hn] at HN ⊢
  have HNN := Aside0.mk hn
  have hc0 := HN.out.cell0
  clear h hm hn
  go_enter Try.func34, Try.ntmps34
  go_wp2
  go_loopg [3, 4] n (fun kq v3 v4 wl => ∃ i : Nat, v4 = .int .i64 (i : Int) ∧ v3 = .int .i64 (rOldI R.mail i) ∧ Aside0 (kq + i = n) ∧ Aside0 (wl = w))
  case atStart => exact ⟨0, rfl, rfl, ⟨rfl⟩, ⟨rfl⟩⟩
  case round =>
    obtain ⟨i, rfl, rfl, HI, HW⟩ := hrel
    obtain rfl := HW.out
    by_cases hlt : i < n
    · have f1 : decide ((i : Int) < (n : Int)) = true := decide_eq_true (by omega)
      have f2 : decide (i < n) = true := decide_eq_true hlt
      have f3 : (0 : Int) ≤ (i : Int) := Int.natCast_nonneg _
      have f4 : (i : Int) < (n : Int) := by omega
      obtain ⟨bb, cc, e0, _⟩ := R_plain HN.out.own (by have h1 := HNN.out; omega)
      injection e0 with e01 e02 e03
      subst e01
      have hin : i < R.mail.length := by have h1 := HNN.out; omega
      obtain ⟨m, hm⟩ : ∃ m, m = R.mail.getD i zeroMail := ⟨_, rfl⟩
      have x4 := R_mailat HN.out.own i 4 hin (.int .i64 m.age) (by rw [hm]; rfl)
      have HT := Aside0.mk (show rOldI R.mail (i + 1) = if rOldI R.mail i < m.age then m.age else rOldI R.mail i by rw [rOldI, hm])
      have HLT := Aside0.mk hlt
      have HE := Aside0.mk (show wrap64 ((i : Int) + 1) = ((i + 1 : Nat) : Int) by have h1 := HNN.out; have h2 := HM.out; rw [wrap64]; omega)
      obtain ⟨o, ho⟩ : ∃ o, o = rOldI R.mail i := ⟨_, rfl⟩
      rw [← ho] at HT ⊢
      have HO := Aside0.mk ho
      clear hm hlt e02 e03 hin ho
      by_cases hs : o < m.age
      · have HF := HT.out
        rw [if_pos hs] at HF
        have HF2 := Aside0.mk HF
        have d1 : decide (o < m.age) = true := decide_eq_true hs
        clear HF hs
        go_wp2
        go_roundg (gk - 1)
        case measure => have h1 := HI.out; have h2 := HLT.out; omega
        case rel => exact ⟨i + 1, by have h := HE.out; rw [h], by rw [HF2.out], ⟨by have h1 := HI.out; have h2 := HLT.out; omega⟩, ⟨rfl⟩⟩
      · have HF := HT.out
        rw [if_neg hs] at HF
        have HF2 := Aside0.mk HF
        have d1 : decide (o < m.age) = false := decide_eq_false hs
        clear HF hs
        go_wp2
        go_roundg (gk - 1)
        case measure => have h1 := HI.out; have h2 := HLT.out; omega
        case rel => exact ⟨i + 1, by have h := HE.out; rw [h], by rw [HF2.out], ⟨by have h1 := HI.out; have h2 := HLT.out; omega⟩, ⟨rfl⟩⟩
    · obtain rfl : i = n := by have h1 := HI.out; omega
      have f1 : decide ((i : Int) < (i : Int)) = false := decide_eq_false (by omega)
      have f2 : decide (i < i) = false := decide_eq_false hlt
      clear hlt
      go_wp2
      go_ret
      exact ⟨rfl, rfl⟩
def loseQ (e : Int) (m : Mail) : Bool := m.frm != e && m.to_ != e
def rLose (R : RNet) (e : Int) : RNet := { R with mail := R.mail.filter (loseQ e) }
set_option maxHeartbeats 8000000 in
set_option maxRecDepth 100000 in
theorem rLose_calls {B : Nat} {w : World} {r : Nat} {v u : Value} {R : RNet} (h : RAt B w r v u R) (hm : R.mail.length < 1000000) (id : Int) :
    Calls Try.prog 31 #[.pointer (some ⟨r, 0, none⟩), .int .i64 id] w fun e w' => e = .returned (.int .i64 ((R.mail.length : Int) - ((R.mail.filter (loseQ id)).length : Int))) ∧ ∃ v', RAt B w' r v' u (rLose R id) ∧ Kr B w r v u w' v' := by
  have hu49 := Try.underlying49
  have hu29 := Try.underlying29
  obtain ⟨A, c, e0⟩ := Kd.R_slice h.own
  subst e0
  have HN := Aside0.mk h
  have HM := Aside0.mk hm
  obtain ⟨n, hn⟩ : ∃ n, n = R.mail.length := ⟨_, rfl⟩
  rw [← hn] at HN ⊢
  have HNN := Aside0.mk hn
  clear h hm hn
  go_enter Try.func31, Try.ntmps31
  go_wp2
  go_loopg [5, 6] n (fun kq v4 v5 wl => ∃ i : Nat, v5 = .int .i64 (i : Int) ∧ Aside0 (kq + i = n) ∧ Aside0 (Kd.R kMail 29 wl w.heap.size (fun _ => True) v4 ((R.mail.take i).filter (loseQ id))) ∧ Aside0 (Below w.heap.size w wl))
  case atStart => exact ⟨0, rfl, ⟨rfl⟩, ⟨Kd.R_nil _ _ _ _ _⟩, ⟨Below.refl _ _⟩⟩
  case round =>
    obtain ⟨i, rfl, HI, HO, HB⟩ := hrel
    have HN2 := Aside0.mk (HN.out.below HB.out)
    have hc0 := HN2.out.cell0
    by_cases hlt : i < n
    · have f1 : decide ((i : Int) < (n : Int)) = true := decide_eq_true (by omega)
      have f2 : decide (i < n) = true := decide_eq_true hlt
      have f3 : (0 : Int) ≤ (i : Int) := Int.natCast_nonneg _
      have f4 : (i : Int) < (n : Int) := by omega
      obtain ⟨bb, cc, e0, _⟩ := R_plain HN2.out.own (by have h1 := HNN.out; omega)
      injection e0 with e01 e02 e03
      subst e01
      have hin : i < R.mail.length := by have h1 := HNN.out; omega
      obtain ⟨m, hm⟩ : ∃ m, m = R.mail.getD i zeroMail := ⟨_, rfl⟩
      have x0 := R_mailat HN2.out.own i 0 hin (.int .i64 m.id) (by rw [hm]; rfl)
      rw [Nat.add_zero] at x0
      have x1 := R_mailat HN2.out.own i 1 hin (.int .i64 m.frm) (by rw [hm]; rfl)
      have x2 := R_mailat HN2.out.own i 2 hin (.int .i64 m.to_) (by rw [hm]; rfl)
      have x3 := R_mailat HN2.out.own i 3 hin (.string m.body) (by rw [hm]; rfl)
      have x4 := R_mailat HN2.out.own i 4 hin (.int .i64 m.age) (by rw [hm]; rfl)
      have HT := Aside0.mk (filter_take R.mail (loseQ id) i hin)
      rw [← hm] at HT
      have HQ := Aside0.mk (show loseQ id m = (m.frm != id && m.to_ != id) from rfl)
      have HLT := Aside0.mk hlt
      have HE := Aside0.mk (show wrap64 ((i : Int) + 1) = ((i + 1 : Nat) : Int) by have h1 := HNN.out; have h2 := HM.out; rw [wrap64]; omega)
      clear hm hlt e02 e03 hin
      have hdec : ((m.frm != id) = false) ∨ ((m.frm != id) = true ∧ (m.to_ != id) = false) ∨ ((m.frm != id) = true ∧ (m.to_ != id) = true) := by
        cases (m.frm != id) <;> cases (m.to_ != id) <;> simp
      rcases hdec with d1 | ⟨d1, d2⟩ | ⟨d1, d2⟩
      · have HF := HT.out
        rw [HQ.out, d1, if_neg (by simp), List.append_nil] at HF
        have HF2 := Aside0.mk HF
        clear HF
        go_wp2
        go_roundg (gk - 1)
        case measure => have h1 := HI.out; have h2 := HLT.out; omega
        case rel => exact ⟨i + 1, by have h := HE.out; rw [h], ⟨by have h1 := HI.out; have h2 := HLT.out; omega⟩, ⟨by rw [HF2.out]; exact HO.out⟩, HB⟩
      · have HF := HT.out
        rw [HQ.out, d1, d2, if_neg (by simp), List.append_nil] at HF
        have HF2 := Aside0.mk HF
        clear HF
        go_wp2
        go_roundg (gk - 1)
        case measure => have h1 := HI.out; have h2 := HLT.out; omega
        case rel => exact ⟨i + 1, by have h := HE.out; rw [h], ⟨by have h1 := HI.out; have h2 := HLT.out; omega⟩, ⟨by rw [HF2.out]; exact HO.out⟩, HB⟩
      · have HF := HT.out
        rw [HQ.out, d1, d2, Bool.and_self, if_pos rfl] at HF
        have HF2 := Aside0.mk HF
        clear HF
        go_wp2_with (first
          | ((with_reducible refine gate_builtin (b := .append) (xs := #[.tmp 39, .tmp 47]) rfl ?_); at_builtin; refine Kd.R_append kMail (w0 := w) w.heap.size rfl (.tmp 39) (.tmp 47) 43 29 _ 48 rfl Try.underlying43 info29 rfl (by decide) (by omega) _ ((R.mail.take i).filter (loseQ id)) m m.cells (fun _ => True) (fun _ => False) rfl rfl ?aP (fun _ hk => hk.elim) ?aF ?aO ?aB ?aS ?aL ?_; (case aP => exact rfl); (case aB => exact HB.out); (case aF => exact (fun _ _ => trivial)); (case aO => exact HO.out); (case aS => exact HB.out.size); (case aL => have h0 := filter_small R.mail (loseQ id) i; have h1 := HM.out; have h2 := HNN.out; have h3 := HLT.out; omega); intro v8 w8 ho hb hg hat; have HO5 := Aside0.mk ho; have HB5 := Aside0.mk hb; clear ho hb hg hat))
        go_roundg (gk - 1)
        case measure => have h1 := HI.out; have h2 := HLT.out; omega
        case rel => exact ⟨i + 1, by have h := HE.out; rw [h], ⟨by have h1 := HI.out; have h2 := HLT.out; omega⟩, ⟨by rw [HF2.out]; exact HO5.out⟩, HB5⟩
    · have f1 : decide ((i : Int) < (n : Int)) = false := decide_eq_false (by omega)
      have f2 : decide (i < n) = false := decide_eq_false hlt
      have HR := Aside0.mk (show (R.mail.take i).filter (loseQ id) = R.mail.filter (loseQ id) by rw [List.take_of_length_le (by have h1 := HNN.out; omega)])
      have hf0 := HN2.out.frozen 0
      have hO2 := HO.out
      rw [HR.out] at hO2
      obtain ⟨A4, c4, e4⟩ := Kd.R_slice hO2
      subst e4
      have HO2 := Aside0.mk hO2
      obtain ⟨k, hk⟩ : ∃ k, k = (R.mail.filter (loseQ id)).length := ⟨_, rfl⟩
      have hkn : k ≤ n := by have h1 := List.length_filter_le (loseQ id) R.mail; have h2 := HNN.out; omega
      have hn1 : n ≤ 1000000 := by have h1 := HM.out; have h2 := HNN.out; omega
      rw [← hk] at HO2 ⊢
      have HKK := Aside0.mk hk
      clear hlt hO2 hk
      go_wp2
      go_ret
      refine ⟨by rw [← HKK.out]; rfl, _, HN2.out.set0 _ _ (Kd.R_lower HO2.out HN.out.base), ?_⟩
      exact ⟨(HB.out.mono HN.out.base).setCell HN.out.ge _, fun k hk h1 h2 h3 => (Below.heap_setCell wr ⟨r, 0, none⟩ _ k h1).trans (HB.out.block k hk), fun b e => .inr (Kd.R_base HO2.out b e)⟩
/-- One tick older. -/
def tk1 (m : Mail) : Mail := { m with age := wrap64 (m.age + 1) }
def tickI (l : List Mail) (i : Nat) : List Mail := (l.take i).map tk1 ++ l.drop i
theorem tickI_len (l : List Mail) (i : Nat) (hi : i ≤ l.length) : (tickI l i).length = l.length := by
  unfold tickI
  rw [List.length_append, List.length_map, List.length_take, List.length_drop]
  omega
theorem tickI_at (l : List Mail) (i : Nat) (hi : i < l.length) : (tickI l i).getD i zeroMail = l.getD i zeroMail := by
  unfold tickI
  rw [List.getD_eq_getElem?_getD, List.getElem?_append_right (by rw [List.length_map, List.length_take]; omega), List.length_map, List.length_take, List.getElem?_drop, List.getD_eq_getElem?_getD]
  congr 2
  omega
theorem tickI_step (l : List Mail) (i : Nat) (hi : i < l.length) : (tickI l i).set i (tk1 (l.getD i zeroMail)) = tickI l (i + 1) := by
  unfold tickI
  rw [List.set_append_right _ _ (by rw [List.length_map, List.length_take]; omega), List.length_map, List.length_take, Nat.min_eq_left (by omega), Nat.sub_self, List.drop_eq_getElem_cons hi, List.set_cons_zero, List.take_add_one, List.getElem?_eq_getElem hi, List.getD_eq_getElem?_getD, List.getElem?_eq_getElem hi]
  simp only [Option.getD_some, Option.toList_some, List.map_append, List.map_cons, List.map_nil, List.append_assoc, List.cons_append, List.nil_append]
theorem tickI_all (l : List Mail) : tickI l l.length = l.map tk1 := by
  unfold tickI
  rw [List.take_length, List.drop_length, List.append_nil]
theorem vals_age (l : List Mail) (i : Nat) (hi : i < l.length) (x : Int) : (vals l).set (i * 5 + 4) (.int .i64 x) = vals (l.set i { l.getD i zeroMail with age := x }) := by
  induction l generalizing i with
  | nil => simp at hi
  | cons m l ih =>
    cases i with
    | zero => rfl
    | succ i =>
      rw [show vals (m :: l) = m.cells ++ vals l from rfl, List.set_append_right _ _ (by simp [Mail.cells]; omega), show (i + 1) * 5 + 4 - m.cells.length = i * 5 + 4 by simp [Mail.cells]; omega, ih i (by simpa using hi)]
      rfl
theorem RAt.aged {B : Nat} {w : World} {r b n c : Nat} {u : Value} {R : RNet} (h : RAt B w r (.slice (some ⟨b, 0, none⟩) n c) u R) (i : Nat) (hi : i < R.mail.length) (x : Int) :
    RAt B (w.setCell ⟨b, i * 5 + 4, none⟩ (.int .i64 x)) r (.slice (some ⟨b, 0, none⟩) n c) u { R with mail := R.mail.set i { R.mail.getD i zeroMail with age := x } } ∧ w.frozen? ⟨b, i * 5 + 4, none⟩ = false ∧ B ≤ b ∧ w.cell? ⟨b, i * 5 + 4, none⟩ = some (.int .i64 (R.mail.getD i zeroMail).age) := by
  have ho := own_of_mail h.own
  have hrb : r ≠ b := fun e => h.vne (by rw [e]; rfl)
  have hub : ∀ k, u.ownBlock = some k → k ≠ b := fun k hk e => by
    obtain ⟨cells, hc⟩ := Kd.R_typed h.pown k hk
    obtain ⟨cells2, hc2⟩ := Kd.R_typed h.own b rfl
    rw [e, hc2] at hc
    injection hc with hc
    injection hc with _ ht
    cases ht
  rcases ho.2 with ⟨e, _⟩ | ⟨b', c', cur, e, h1, h2, h3, h4, h5, h6⟩
  · cases e
  · injection e with e1 e2 e3
    injection e1 with e1
    injection e1 with e1
    subst e1
    subst e2
    subst e3
    have hown : (w.setCell ⟨b, i * 5 + 4, none⟩ (.int .i64 x)).ownsRow B 29 5 (.slice (some ⟨b, 0, none⟩) R.mail.length c) R.mail.length (vals (R.mail.set i { R.mail.getD i zeroMail with age := x })) := by
      refine ⟨by rw [vals_length, List.length_set], .inr ⟨b, c, _, rfl, h1, blk_set h2 _ _, h3, h4, by rw [Array.size_setIfInBounds]; exact h5, ?_⟩⟩
      rw [Array.toList_setIfInBounds, List.take_set, h6, vals_age _ _ hi]
    refine ⟨⟨h.ge, (Below.heap_setCell w ⟨b, i * 5 + 4, none⟩ _ r hrb).trans h.row, mail_of_own hown (by rw [List.length_set]), ?_⟩, blk_frozen h2 _, h1, ?_⟩
    · exact Kd.R_mono (Kd.R_far (Kd.R_tight rfl h.pown) (fun k hk => hub k hk.symm) _) fun _ _ => trivial
    · exact R_mailat h.own i 4 hi _ rfl
set_option maxHeartbeats 8000000 in
set_option maxRecDepth 100000 in
theorem rTick_calls {B : Nat} {w : World} {r : Nat} {v u : Value} {R : RNet} (h : RAt B w r v u R) (hm : R.mail.length < 1000000) :
    Calls Try.prog 29 #[.pointer (some ⟨r, 0, none⟩)] w fun e w' => e = .returned (.tuple #[]) ∧ RAt B w' r v u { R with mail := R.mail.map tk1 } ∧ Kr B w r v u w' v := by
  have hu49 := Try.underlying49
  have hu29 := Try.underlying29
  obtain ⟨A, c, e0⟩ := Kd.R_slice h.own
  subst e0
  have HN := Aside0.mk h
  have HM := Aside0.mk hm
  obtain ⟨n, hn⟩ : ∃ n, n = R.mail.length := ⟨_, rfl⟩
  rw [← hn] at HN ⊢
  have HNN := Aside0.mk hn
  clear h hm hn
  go_enter Try.func29, Try.ntmps29
  go_wp2
  go_loopg [2] n (fun kq v2 wl => ∃ i : Nat, v2 = .int .i64 (i : Int) ∧ Aside0 (kq + i = n) ∧ Aside0 (RAt B wl r (.slice A n c) u { R with mail := tickI R.mail i }) ∧ Aside0 (Kr B w r (.slice A n c) u wl (.slice A n c)))
  case atStart => exact ⟨0, rfl, ⟨rfl⟩, HN, ⟨Kr.refl _ _ _ _ _⟩⟩
  case round =>
    obtain ⟨i, rfl, HI, HO, HB⟩ := hrel
    have hc0 := HO.out.cell0
    by_cases hlt : i < n
    · have f1 : decide ((i : Int) < (n : Int)) = true := decide_eq_true (by omega)
      have f2 : decide (i < n) = true := decide_eq_true hlt
      have f3 : (0 : Int) ≤ (i : Int) := Int.natCast_nonneg _
      have f4 : (i : Int) < (n : Int) := by omega
      have hin : i < R.mail.length := by have h1 := HNN.out; omega
      have htl : (tickI R.mail i).length = n := by rw [tickI_len _ _ (by omega)]; exact HNN.out.symm
      obtain ⟨bb, cc, e0, _⟩ := R_plain HO.out.own (by rw [htl]; omega)
      injection e0 with e01 e02 e03
      subst e01
      obtain ⟨m, hm⟩ : ∃ m, m = R.mail.getD i zeroMail := ⟨_, rfl⟩
      obtain ⟨a1, a2, a3, a4⟩ := HO.out.aged i (by rw [htl]; omega) (wrap64 (m.age + 1))
      have hst := tickI_step R.mail i hin
      rw [tickI_at _ _ hin, ← hm] at a1 a4
      have a1' : RAt B (wr.setCell ⟨bb, i * 5 + 4, none⟩ (.int .i64 (wrap64 (m.age + 1)))) r (.slice (some ⟨bb, 0, none⟩) n c) u { R with mail := tickI R.mail (i + 1) } := by
        rw [← hst, ← hm]
        exact a1
      have HA1 := Aside0.mk a1'
      have HA3 := Aside0.mk a3
      have HLT := Aside0.mk hlt
      have HE := Aside0.mk (show wrap64 ((i : Int) + 1) = ((i + 1 : Nat) : Int) by have h1 := HNN.out; have h2 := HM.out; rw [wrap64]; omega)
      clear hm hlt e02 e03 hin htl a1 a1' a3 hst
      go_wp2
      go_roundg (gk - 1)
      case measure => have h1 := HI.out; have h2 := HLT.out; omega
      case rel => exact ⟨i + 1, by have h := HE.out; rw [h], ⟨by have h1 := HI.out; have h2 := HLT.out; omega⟩, HA1, ⟨⟨HB.out.below.setCell (p := ⟨bb, i * 5 + 4, none⟩) HA3.out _, fun k h0 h1 h2 h3 => (Below.heap_setCell wr ⟨bb, i * 5 + 4, none⟩ _ k (fun e => h2 (by rw [e]; rfl))).trans (HB.out.keep k h0 h1 h2 h3), HB.out.own⟩⟩⟩
    · have f1 : decide ((i : Int) < (n : Int)) = false := decide_eq_false (by omega)
      have f2 : decide (i < n) = false := decide_eq_false hlt
      have HR := Aside0.mk (show tickI R.mail i = R.mail.map tk1 by rw [show i = R.mail.length by have h1 := HI.out; have h2 := HNN.out; omega]; exact tickI_all _)
      clear hlt
      go_wp2
      go_end0
      exact ⟨rfl, by rw [← HR.out]; exact HO.out, HB.out⟩
end Go.Proofs.Ytnggcegfieeonaa.Nx
