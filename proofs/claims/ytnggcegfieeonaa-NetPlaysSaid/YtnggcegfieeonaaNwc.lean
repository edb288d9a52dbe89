/- What is proved: what the zero values of a network's types are. No condition. -/
import Derived.Test.YtnggcegfieeonaaNwb
namespace Go.Proofs.Ytnggcegfieeonaa.Nx
open Go.RowKit Go.Proofs.YtnggcegfieeonaaW.PrintWords Go.Proofs.YtnggcegfieeonaaW.PrintLast Go.Proofs.YtnggcegfieeonaaW.PrintMore
open Go.Proofs.Ytnggcegfieeonaa.PNetFull
set_option linter.unusedVariables false
set_option linter.unusedSimpArgs false
def isF : Value → Bool
  | .bool false => true
  | _ => false
theorem isF_eq {v : Value} (h : isF v = true) : v = .bool false := by
  unfold isF at h
  split at h
  · rfl
  · cases h
def aggOf : Value → Option (List Value)
  | .agg cs => some cs.toList
  | _ => none
def goodF (l : List Value) : Bool := l.length == 4096 && l.all isF
def goodN (l : List Value) : Bool := (match l with | .slice none 0 0 :: .int .i64 0 :: .int .i64 0 :: l => goodF l | _ => false)
theorem z53 : ((Try.prog.info? 53).map (fun i => (i.size, i.zero.map (fun z => (aggOf z).map goodF)))) = some (4096, some (some true)) := by kernel_rfl
theorem z55 : ((Try.prog.info? 55).map (fun i => (i.size, i.zero.map (fun z => (aggOf z).map goodN)))) = some (4099, some (some true)) := by kernel_rfl
theorem zero53 : ∃ Z : Array Value, (∀ w, (zeroValue 53).run Try.prog w = .ok (.agg Z) w) ∧ goodF Z.toList = true :=
  ⟨(((Try.prog.info? 53).bind (·.zero)).getD undef).cells, fun w => by kernel_rfl, by kernel_rfl⟩
theorem zero55 : ∃ Z : Array Value, (∀ w, (zeroValue 55).run Try.prog w = .ok (.agg Z) w) ∧ (∀ w, (Instr.box 55 (.agg Z)).run Try.prog w = .ok (.pointer (some ⟨w.heap.size, 0, none⟩)) (w.alloc (.cells Z 55 (0, 0)))) ∧ goodN Z.toList = true :=
  ⟨(((Try.prog.info? 55).bind (·.zero)).getD undef).cells, fun w => by kernel_rfl, fun w => by kernel_rfl, by kernel_rfl⟩
theorem goodF_at {l : List Value} (h : goodF l = true) : l.length = 4096 ∧ ∀ i, i < 4096 → l[i]? = some (.bool false) := by
  unfold goodF at h
  rw [Bool.and_eq_true, beq_iff_eq, List.all_eq_true] at h
  exact ⟨h.1, fun i hi => by rw [List.getElem?_eq_getElem (by omega), isF_eq (h.2 _ (List.getElem_mem (by omega)))]⟩
def emptyNet : Net := ⟨[], 0, 0, fun _ => false⟩
theorem goodN_row {Z : Array Value} (h : goodN Z.toList = true) : Row Z (.slice none 0 0) emptyNet := by
  obtain ⟨l⟩ := Z
  unfold goodN at h
  split at h
  · rename_i l' e
    simp only at e
    subst e
    obtain ⟨h1, h2⟩ := goodF_at h
    refine ⟨by simp [h1], rfl, rfl, rfl, fun i hi => ?_⟩
    rw [List.getElem?_toArray, show 3 + i = i + 3 by omega, List.getElem?_cons_succ, List.getElem?_cons_succ, List.getElem?_cons_succ]
    exact h2 i hi
  · cases h

set_option maxHeartbeats 8000000 in
set_option maxRecDepth 100000 in
theorem new_calls (B : Nat) (w : World) (hB : B ≤ w.heap.size) :
    Calls Try.prog 10 #[] w fun e w' => ∃ g, e = .returned (.pointer (some ⟨g, 0, none⟩)) ∧ NetAt B w' g (.slice none 0 0) emptyNet ∧ Below w.heap.size w w' ∧ w.heap.size ≤ g := by
  obtain ⟨Z, hb, hx, hz⟩ := zero55
  go_enter Try.func10, Try.ntmps10
  go_wp2_with (first
    | ((with_reducible refine gate_dst (N := 2) rfl ?_); refine box_event ?hg (N := 2) ?hd (cs := Z) (t := 55) ?hr ?_; (case hd => rfl); (case hg => rfl); (case hr => first | (go_simp; done) | (go_simp; rfl)); intro gb hg w1 hbox hb1; have HB1 := Aside0.mk hb1; have HG1 := Aside0.mk hg; have HX1 := Aside0.mk hbox; clear hbox hb1 hg))
  go_ret
  exact ⟨gb, rfl, ⟨by rw [HG1.out]; exact hB, ⟨Z, HX1.out, goodN_row hz⟩, World.ownsRow_nil _ _ _ _⟩, HB1.out, Nat.le_of_eq HG1.out.symm⟩
theorem setCells_row (g : Nat) (t : TypeId) (zs : List Value) : ∀ (w : World) (o : Nat) (cs : Array Value), w.heap[g]? = some (.cells cs t (0, 0)) → ∃ cs', (w.setCells g o zs).heap[g]? = some (.cells cs' t (0, 0)) ∧ cs'.size = cs.size ∧ (∀ j, j < o → cs'[j]? = cs[j]?) ∧ (∀ j, j < zs.length → o + j < cs.size → cs'[o + j]? = zs[j]?) := by
  induction zs with
  | nil => intro w o cs h; exact ⟨cs, h, rfl, fun _ _ => rfl, fun j hj => by simp at hj⟩
  | cons z zs ih =>
    intro w o cs h
    obtain ⟨cs', h1, h2, h3, h4⟩ := ih (w.setCell ⟨g, o, none⟩ z) (o + 1) _ (blk_set h o z)
    refine ⟨cs', h1, by rw [h2]; simp, fun j hj => ?_, fun j hj hz => ?_⟩
    · rw [h3 j (by omega), Array.getElem?_setIfInBounds_ne (by omega)]
    · cases j with
      | zero => rw [Nat.add_zero, h3 o (by omega), Array.getElem?_setIfInBounds_self_of_lt (by omega)]; rfl
      | succ j => rw [show o + (j + 1) = o + 1 + j by omega, h4 j (by simpa using hj) (by simp; omega)]; rfl
theorem setCells_far (g : Nat) (zs : List Value) : ∀ (w : World) (o b : Nat), b ≠ g → (w.setCells g o zs).heap[b]? = w.heap[b]? := by
  induction zs with
  | nil => intro w o b _; rfl
  | cons z zs ih => intro w o b h; exact (ih (w.setCell ⟨g, o, none⟩ z) (o + 1) b h).trans (Below.heap_setCell w ⟨g, o, none⟩ z b h)
theorem setCells_below (B g : Nat) (hg : B ≤ g) (zs : List Value) : ∀ (w0 w : World) (o : Nat), Below B w0 w → Below B w0 (w.setCells g o zs) := by
  induction zs with
  | nil => intro w0 w o h; exact h
  | cons z zs ih => intro w0 w o h; exact ih w0 (w.setCell ⟨g, o, none⟩ z) (o + 1) (h.setCell hg z)
/-- A message is stored into a variable of its own. -/
theorem store_box {ops : Array Oper} {rest : List Oper} {op : Oper} {a : Act} {w : World} {Q : Exit → Act → World → Prop} (hgd : op.guard = none) (x y : Operand) (ho : op.op = .store 29 x y) (gb : Nat) (cs : Array Value) (hz : cs.size = 5)
    (hx : a.eval x = .pointer (some ⟨gb, 0, none⟩)) (m : Mail) (hy : a.eval y = m.val) (hrow : w.heap[gb]? = some (.cells cs 29 (0, 0)))
    (h : ∀ w', w'.heap[gb]? = some (.cells m.cells.toArray 29 (0, 0)) → (∀ i, i ≠ gb → w'.heap[i]? = w.heap[i]?) → Below gb w w' → wpList Try.prog ops Q rest (a.put op.dst undef) w') : wpList Try.prog ops Q (op :: rest) a w := by
  have hth : w.there gb 0 m.cells.toArray.size := fun j hj => by
    have hj5 : j < 5 := hj
    rw [Nat.zero_add]
    exact ⟨by rw [cell_of_row w gb j cs 29 (0, 0) hrow, Array.getElem?_eq_getElem (by omega)]; rfl, blk_frozen hrow j⟩
  refine wpList_store_mid hgd 29 x y ho gb 0 m.cells.toArray hx hy hth (by kernel_rfl) (by simp [Mail.cells, Value.oneCell']) ?_
  obtain ⟨cs', h1, h2, _, h4⟩ := setCells_row gb 29 m.cells w 0 cs hrow
  have he : cs' = m.cells.toArray := by
    apply Array.ext_getElem?
    intro i
    by_cases hi : i < 5
    · have := h4 i hi (by omega)
      rw [Nat.zero_add] at this
      rw [this, List.getElem?_toArray]
    · rw [Array.getElem?_eq_none (by omega), Array.getElem?_eq_none (by show 5 ≤ i; omega)]
  exact h _ (by rw [he] at h1; exact h1) (fun i hi => setCells_far gb m.cells w 0 i hi) (setCells_below gb gb (Nat.le_refl _) m.cells w w 0 (Below.refl _ _))
theorem mail_cells (m : Mail) : m.cells.toArray = #[.int .i64 m.id, .int .i64 m.frm, .int .i64 m.to_, .string m.body, .int .i64 m.age] := rfl
def healF (S : Net) : Net := { S with P := fun _ => false }
theorem NetAt.healed {B : Nat} {w : World} {g : Nat} {v : Value} {S : Net} (h : NetAt B w g v S) (zs : List Value) (hz : goodF zs = true) : NetAt B (w.setCells g 3 zs) g v (healF S) ∧ Kp B w g v (w.setCells g 3 zs) v := by
  obtain ⟨z1, z2⟩ := goodF_at hz
  obtain ⟨cs, hb, hr⟩ := h.row
  obtain ⟨cs', h1, h2, h3, h4⟩ := setCells_row g 55 zs w 3 cs hb
  have hs := hr.size
  have hbel := setCells_below B g h.ge zs w w 3 (Below.refl _ _)
  refine ⟨⟨h.ge, ⟨cs', h1, by rw [h2]; exact hs, by rw [h3 0 (by decide)]; exact hr.c0, by rw [h3 1 (by decide)]; exact hr.c1, by rw [h3 2 (by decide)]; exact hr.c2, fun i hi => by rw [h4 i (by omega) (by omega)]; exact z2 i hi⟩, h.own_set _ fun b hne => setCells_far g zs w 3 b hne⟩,
    ⟨hbel, ⟨hbel.size, fun i hi hne _ => setCells_far g zs w 3 i hne⟩, .inl rfl⟩⟩
theorem NetAt.there {B : Nat} {w : World} {g : Nat} {v : Value} {S : Net} (h : NetAt B w g v S) : w.there g 3 4096 := fun j hj => ⟨by rw [h.cell3 j hj]; rfl, h.frozen _⟩
theorem size53 : (Try.prog.info? 53).map (·.size) = some 4096 := by kernel_rfl
set_option maxHeartbeats 8000000 in
set_option maxRecDepth 100000 in
theorem heal_calls {B : Nat} {w : World} {g : Nat} {v : Value} {S : Net} (h : NetAt B w g v S) :
    Calls Try.prog 18 #[.pointer (some ⟨g, 0, none⟩)] w fun e w' => e = .returned (.tuple #[]) ∧ NetAt B w' g v (healF S) ∧ Kp B w g v w' v := by
  have hu55 := Try.underlying55
  obtain ⟨Z, hb, hz⟩ := zero53
  obtain ⟨z1, z2⟩ := goodF_at hz
  have hzs : Z.size = 4096 := by rw [← Array.length_toList]; exact z1
  have HT := Aside0.mk (show w.there g 3 Z.size by rw [hzs]; exact h.there)
  have HS := Aside0.mk (show (Try.prog.info? 53).map (·.size) = some Z.size by rw [hzs]; exact size53)
  have H1 := Aside0.mk (show Z.all (·.oneCell') = true by
    rw [← Array.all_toList, List.all_eq_true]
    intro x hx
    have hz' := hz
    unfold goodF at hz'
    rw [Bool.and_eq_true, List.all_eq_true] at hz'
    rw [isF_eq (hz'.2 x hx)]
    rfl)
  have HN := Aside0.mk h
  have HZ := Aside0.mk hz
  clear h hz z1 z2 hzs
  go_enter Try.func18, Try.ntmps18
  go_wp2_with (first | (refine wpList_store_mid rfl 53 (.tmp 7) (.tmp 5) rfl g 3 Z rfl rfl HT.out HS.out H1.out ?_))
  go_end0
  exact ⟨rfl, HN.out.healed _ HZ.out⟩
end Go.Proofs.Ytnggcegfieeonaa.Nx
