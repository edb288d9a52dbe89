/- What is proved: what Parted comes to at whatever two numbers; how a call is stored into a variable of its own; what stands behind a take. No condition but what each theorem says. -/
import Derived.Test.YtnggcegfieeonaaNoncep
import Derived.Test.YtnggcegfieeonaaNordw
namespace Go.Proofs.Ytnggcegfieeonaa.Nx
open Go.RowKit Go.Proofs.YtnggcegfieeonaaW.PrintWords Go.Proofs.YtnggcegfieeonaaW.PrintLast Go.Proofs.YtnggcegfieeonaaW.PrintMore
open Go.Proofs.Ytnggcegfieeonaa.PNetFull
set_option linter.unusedVariables false
set_option linter.unusedSimpArgs false
def partF (S : Net) (a b : Int) : Bool := two a b && S.P (a.toNat * 64 + b.toNat)
set_option maxHeartbeats 8000000 in
set_option maxRecDepth 100000 in
theorem parted_false {B : Nat} {w : World} {g : Nat} {v : Value} {S : Net} (h : NetAt B w g v S) (a b : Int) (h1 : two a b = false) :
    Calls Try.prog 17 #[.pointer (some ⟨g, 0, none⟩), .int .i64 a, .int .i64 b] w fun e w' => e = .returned (.bool false) ∧ Drawn0 w w' := by
  have hu55 := Try.underlying55
  have H2 := Aside0.mk (show net_two.f a b = some false by rw [two_told, h1])
  have HN := Aside0.mk h
  clear h h1
  go_enter Try.func17, Try.ntmps17
  go_wp2_with (first | (go_at_call 36; (with_reducible refine (net_two.calls a b false _ H2.out).mono ?_); rintro e w2 ⟨rfl, ⟨nd, rfl⟩⟩))
  go_ret
  exact ⟨rfl, _, rfl⟩
theorem parted_any {B : Nat} {w : World} {g : Nat} {v : Value} {S : Net} (h : NetAt B w g v S) (a b : Int) :
    Calls Try.prog 17 #[.pointer (some ⟨g, 0, none⟩), .int .i64 a, .int .i64 b] w fun e w' => e = .returned (.bool (partF S a b)) ∧ Drawn0 w w' := by
  unfold partF
  by_cases h1 : two a b = true
  · obtain ⟨m, n, rfl, rfl, hm, hn, hne⟩ := two_inv h1
    rw [h1, Bool.true_and, Int.toNat_natCast, Int.toNat_natCast]
    exact parted_calls h m n hm hn hne
  · rw [Bool.not_eq_true] at h1
    rw [h1, Bool.false_and]
    exact parted_false h a b h1
/-- A call is stored into a variable of its own. -/
theorem store_op {ops : Array Oper} {rest : List Oper} {op : Oper} {a : Act} {w : World} {Q : Exit → Act → World → Prop} (hgd : op.guard = none) (x y : Operand) (ho : op.op = .store 38 x y) (gb : Nat) (cs : Array Value) (hz : cs.size = 4)
    (hx : a.eval x = .pointer (some ⟨gb, 0, none⟩)) (m : OpR) (hy : a.eval y = m.val) (hrow : w.heap[gb]? = some (.cells cs 38 (0, 0)))
    (h : ∀ w', w'.heap[gb]? = some (.cells m.cells.toArray 38 (0, 0)) → (∀ i, i ≠ gb → w'.heap[i]? = w.heap[i]?) → Below gb w w' → wpList Try.prog ops Q rest (a.put op.dst undef) w') : wpList Try.prog ops Q (op :: rest) a w := by
  have hth : w.there gb 0 m.cells.toArray.size := fun j hj => by
    have hj5 : j < 4 := hj
    rw [Nat.zero_add]
    exact ⟨by rw [cell_of_row w gb j cs 38 (0, 0) hrow, Array.getElem?_eq_getElem (by omega)]; rfl, blk_frozen hrow j⟩
  refine wpList_store_mid hgd 38 x y ho gb 0 m.cells.toArray hx hy hth (by kernel_rfl) (by simp [OpR.cells, Value.oneCell']) ?_
  obtain ⟨cs', h1, h2, _, h4⟩ := setCells_row gb 38 m.cells w 0 cs hrow
  have he : cs' = m.cells.toArray := by
    apply Array.ext_getElem?
    intro i
    by_cases hi : i < 4
    · have := h4 i hi (by omega)
      rw [Nat.zero_add] at this
      rw [this, List.getElem?_toArray]
    · rw [Array.getElem?_eq_none (by omega), Array.getElem?_eq_none (by show 4 ≤ i; omega)]
  exact h _ (by rw [he] at h1; exact h1) (fun i hi => setCells_far gb m.cells w 0 i hi) (setCells_below gb gb (Nat.le_refl _) m.cells w w 0 (Below.refl _ _))
theorem op_cells (m : OpR) : m.cells.toArray = #[.int .i64 m.kind, .int .i64 m.a, .int .i64 m.b, .string m.body] := rfl
theorem zero38 (w : World) : (zeroValue 38).run Try.prog w = .ok (.agg #[.int .i64 0, .int .i64 0, .int .i64 0, .string ⟨#[]⟩]) w := by kernel_rfl
theorem info38 : (Try.prog.info? 38).map (fun i => (i.zero, i.size, i.bytes)) = some (some (.agg #[.int .i64 0, .int .i64 0, .int .i64 0, .string ⟨#[]⟩]), 4, 40) := by kernel_rfl
theorem two4_ok (a b : Int) (ha : 0 ≤ a ∧ a < 4) (hb : 0 ≤ b ∧ b < 4) : two a b = (a != b) := by
  unfold two
  rw [decide_eq_true ⟨ha.1, by omega⟩, decide_eq_true ⟨hb.1, by omega⟩]
  rfl
theorem pq_same (a b : Int) : pq a b a b = true := by unfold pq; simp
section
variable {a b : Int} {sent : List OpR} {total : Nat} {S : Net} {owed : List Int} {healed : Bool} {i : Nat} (h : TakeOk a b sent total S owed healed i) (ha : 0 ≤ a ∧ a < 4) (hb : 0 ≤ b ∧ b < 4)
include h ha hb
theorem take_part (hab : a ≠ b) : partF S a b = !healed := by
  unfold partF
  rw [two4_ok a b ha hb, bne_iff_ne.2 hab, Bool.true_and, h.P]
  cases healed with
  | true => rfl
  | false =>
    rw [if_neg (by simp), parted_set a b a b ha hb ha hb hab, pq_same]
    rfl
/-- Nothing may come, and nothing is parted: nothing waits. -/
theorem take_empty (hf : S.mail.filter (opn S.P) = []) (hh : a = b ∨ healed = true) : S.mail = [] := by
  have hP : S.P = fun _ => false := by
    rw [h.P]
    rcases hh with hh | hh
    · cases healed with
      | true => rfl
      | false =>
        rw [if_neg (by simp), setF, if_neg]
        · rfl
        · rintro ⟨h3, _⟩
          rw [two4_ok a b ha hb, hh] at h3
          simp at h3
    · rw [if_pos hh]
  have := opn_split _ _ hf
  rw [← this, List.filter_eq_nil_iff]
  intro m _
  unfold opn
  rw [hP]
  simp
end
theorem took_open {S : Net} {m : Mail} (h : opn S.P m = true) : partF S m.frm m.to_ = false := by
  unfold opn key at h
  unfold partF
  rw [Bool.not_eq_true'] at h
  rw [h, Bool.and_false]
theorem R_intf {w : World} {base b n c : Nat} {ok : Nat → Prop} {xs : List Int} (h : Kd.R (Kd.int .i64) 3 w base ok (.slice (some ⟨b, 0, none⟩) n c) xs) (i : Nat) (hi : i < xs.length) : w.frozen? ⟨b, i, none⟩ = false := by
  obtain rfl : n = xs.length := (Kd.R_reads' h).1
  have h' : Kd.R (Kd.scalar (Value.int .i64) (fun _ => rfl)) 3 w base ok (.slice (some ⟨b, 0, none⟩) xs.length c) xs := h
  have := (Kd.R_cell (0 : Int) h' (i : Int) (Int.natCast_nonneg _) (by omega)).2
  rwa [Int.toNat_natCast] at this
theorem R_intput {w : World} {base b n c : Nat} {ok : Nat → Prop} {xs : List Int} (h : Kd.R (Kd.int .i64) 3 w base ok (.slice (some ⟨b, 0, none⟩) n c) xs) (i : Nat) (x : Int) : Kd.R (Kd.int .i64) 3 (w.setCell ⟨b, i, none⟩ (.int .i64 x)) base ok (.slice (some ⟨b, 0, none⟩) n c) (xs.set i x) ∧ w.grownBy (w.setCell ⟨b, i, none⟩ (.int .i64 x)) (some b) := by
  obtain rfl : n = xs.length := (Kd.R_reads' h).1
  have h' : Kd.R (Kd.scalar (Value.int .i64) (fun _ => rfl)) 3 w base ok (.slice (some ⟨b, 0, none⟩) xs.length c) xs := h
  have := Kd.R_put h' (i : Int) x
  rwa [Int.toNat_natCast] at this
end Go.Proofs.Ytnggcegfieeonaa.Nx
