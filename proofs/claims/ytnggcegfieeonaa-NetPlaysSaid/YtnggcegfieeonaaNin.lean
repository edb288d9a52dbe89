/- What is proved: how a slice of calls and a pair of numbers that come in are read. No condition but what each theorem says. -/
import Derived.Test.YtnggcegfieeonaaNpick
import Derived.Deep.Slices
import Derived.Deep.Fields
import Derived.ChangeSame
import Derived.OpenShut
namespace Go.Proofs.Ytnggcegfieeonaa.Nx
open Go.RowKit Go.Proofs.YtnggcegfieeonaaW.PrintWords Go.Proofs.YtnggcegfieeonaaW.PrintLast Go.Proofs.YtnggcegfieeonaaW.PrintMore
open Go.ChangeShapes Go.WideShapes Go.Deep
set_option linter.unusedVariables false
set_option linter.unusedSimpArgs false
structure OpR where
  kind : Int
  a : Int
  b : Int
  body : ByteArray
def OpR.cells (o : OpR) : List Value := [.int .i64 o.kind, .int .i64 o.a, .int .i64 o.b, .string o.body]
def OpR.val (o : OpR) : Value := .agg #[.int .i64 o.kind, .int .i64 o.a, .int .i64 o.b, .string o.body]
def zeroOp : OpR := ⟨0, 0, 0, ⟨#[]⟩⟩
def OpR.ok (o : OpR) : Prop := (Lit.int .i64 o.kind).wf = true ∧ (Lit.int .i64 o.a).wf = true ∧ (Lit.int .i64 o.b).wf = true
theorem op_one (m : OpR) : ∀ u ∈ m.cells, u.oneCell' = true := by simp [OpR.cells, Value.oneCell']
def kOp : Kd OpR where
  sz := 4
  E := []
  K := fun _ x cs => cs = x.cells
  M := fun _ _ _ x cs => cs = x.cells
  K_len := fun h => by rw [h]; rfl
  K_one := fun h => by rw [h]; exact op_one _
  K_below := fun _ h => h
  K_of_M := fun h => h
  M_mono := fun _ h => h
  M_bound := fun h => h
  M_move := fun _ h => h
  M_lower := fun _ h => h
/-- A slice of calls that came in. -/
structure OpsIn (W : World) (A : Option Addr) (l : List OpR) : Prop where
  row : kOp.C W A l.length l
  ok : ∀ o ∈ l, o.ok
theorem OpsIn.below {W W1 : World} {A : Option Addr} {l : List OpR} (h : OpsIn W A l) (hb : Below W.heap.size W W1) : OpsIn W1 A l := ⟨Kd.C_below h.row hb, h.ok⟩
theorem C_opat {w : World} {A : Option Addr} {n : Nat} {xs : List OpR} (h : kOp.C w A n xs) (i : Nat) (hi : i < n) : ∃ ad, A = some ad ∧ ∀ j u, ((xs.getD i zeroOp).cells)[j]? = some u → w.cell? (ad.add (i * 4 + j)) = some u := by
  obtain ⟨ad, cs, ea, _, hk, hc⟩ := Kd.C_get h zeroOp (i : Int) (Int.natCast_nonneg _) (by omega)
  rw [Int.toNat_natCast] at hk hc
  have hk' : cs = (xs.getD i zeroOp).cells := hk
  subst hk'
  exact ⟨ad, ea, hc⟩
theorem ops_list {W : World} {a : Addr} {len : Nat} (h : ∀ i, i < len → ∃ o : OpR, o.ok ∧ ∀ j u, o.cells[j]? = some u → W.cell? (a.add (i * 4 + j)) = some u) :
    ∃ l : List OpR, l.length = len ∧ ∀ i, i < len → ∃ o : OpR, l[i]? = some o ∧ o.ok ∧ ∀ j u, o.cells[j]? = some u → W.cell? (a.add (i * 4 + j)) = some u := by
  induction len with
  | zero => exact ⟨[], rfl, fun i hi => absurd hi (Nat.not_lt_zero _)⟩
  | succ n ih =>
    obtain ⟨l, hl, hc⟩ := ih fun i hi => h i (by omega)
    obtain ⟨o, ho, hoc⟩ := h n (by omega)
    refine ⟨l ++ [o], by rw [List.length_append, hl]; rfl, fun i hi => ?_⟩
    by_cases e : i < n
    · obtain ⟨o', h1, h2⟩ := hc i e
      exact ⟨o', by rw [List.getElem?_append_left (by omega)]; exact h1, h2⟩
    · obtain rfl : i = n := by omega
      exact ⟨o, by rw [List.getElem?_append_right (by omega), hl, Nat.sub_self]; rfl, ho, hoc⟩
theorem cells38 : Try.prog.cellsOf 38 = 4 := by kernel_rfl
section
variable {H : Type} {enc : TypeId × Value → H} {W : World} {d : DataW H} {p : List MemPlace}
theorem op_read {base : Nat} {spare : Nat → Bool} {held : Bool} {n : Nat} {cs : List Value} {x : DataW H × List MemPlace} (h : DataW.trod enc Try.prog W base spare held n 38 cs = some x) : ∃ o : OpR, o.ok ∧ cs = o.cells := by
  obtain ⟨ys, m, _, _, hlen, hyl, hf⟩ := DataW.trod_struct Try.underlying38 h
  rw [cells38] at hlen
  match cs, hlen with
  | [c0, c1, c2, c3], _ =>
    have h0 := hf 0 _ rfl
    have h1 := hf 1 _ rfl
    have h2 := hf 2 _ rfl
    have h3 := hf 3 _ rfl
    match ys, hyl with
    | [y0, y1, y2, y3], _ =>
      obtain ⟨k, e0, _, w0⟩ := DataW.trod_int Try.underlying3 (h0.trans rfl)
      obtain ⟨a, e1, _, w1⟩ := DataW.trod_int Try.underlying3 (h1.trans rfl)
      obtain ⟨b, e2, _, w2⟩ := DataW.trod_int Try.underlying3 (h2.trans rfl)
      obtain ⟨s, e3, _, _⟩ := DataW.trod_string Try.underlying9 (h3.trans rfl)
      change List.take (Try.prog.cellsOf 3) (List.drop 0 [c0, c1, c2, c3]) = _ at e0
      change List.take (Try.prog.cellsOf 3) (List.drop 1 [c0, c1, c2, c3]) = _ at e1
      change List.take (Try.prog.cellsOf 3) (List.drop 2 [c0, c1, c2, c3]) = _ at e2
      change List.take (Try.prog.cellsOf 9) (List.drop 3 [c0, c1, c2, c3]) = _ at e3
      rw [show Try.prog.cellsOf 3 = 1 by kernel_rfl] at e0 e1 e2
      rw [show Try.prog.cellsOf 9 = 1 by kernel_rfl] at e3
      simp at e0 e1 e2 e3
      subst e0 e1 e2 e3
      exact ⟨⟨k, a, b, s⟩, ⟨w0, w1, w2⟩, rfl⟩
theorem ops_in {A : Option Addr} {len cap : Nat} (h : DataW.Trod enc Try.prog W 0 (fun _ => true) true 34 (.slice A len cap) d p) : ∃ l : List OpR, len = l.length ∧ OpsIn W A l ∧ l.length ≤ cap := by
  obtain ⟨fuel, hf⟩ := h
  rcases open_slice Try.underlying34 hf with ⟨hcs, _⟩ | ⟨a, len', cap', m, n, D, Pl, hcs, _, hl, hm, hmm, _, hi⟩
  · simp [Value.cells] at hcs
    obtain ⟨rfl, rfl, rfl⟩ := hcs
    exact ⟨[], rfl, ⟨⟨rfl, by simp, fun h => absurd h (by simp)⟩, fun o ho => by cases ho⟩, by simp⟩
  · simp [Value.cells] at hcs
    obtain ⟨rfl, rfl, rfl⟩ := hcs
    rw [cells38] at hi
    obtain ⟨l, hll, hlc⟩ := ops_list (W := W) (a := a) (len := len) fun i hlt => by
      obtain ⟨cs', hc, ht⟩ := hi i (by simp at hmm; omega)
      obtain ⟨o, ho, rfl⟩ := op_read ht
      obtain ⟨_, _, hat⟩ := World.cells?_some hc
      refine ⟨o, ho, fun j u hj => ?_⟩
      have hj4 : j < 4 := (List.getElem?_eq_some_iff.1 hj).1
      rw [← Go.Deep.add_add, hat j hj4, hj]
    have hmax : maxLen = 9223372036854775807 := rfl
    refine ⟨l, hll.symm, ⟨⟨rfl, by omega, fun _ => ⟨a, rfl, fun j o hj => ?_⟩⟩, fun o ho => ?_⟩, by omega⟩
    · obtain ⟨o', h1, _, h3⟩ := hlc j (by have := (List.getElem?_eq_some_iff.1 hj).1; omega)
      rw [h1] at hj
      injection hj with hj
      subst hj
      exact ⟨_, rfl, rfl, h3⟩
    · obtain ⟨i, hi2, rfl⟩ := List.mem_iff_getElem.1 ho
      obtain ⟨o', h1, h2, _⟩ := hlc i (by omega)
      rw [List.getElem?_eq_getElem hi2] at h1
      injection h1 with h1
      rw [h1]; exact h2
theorem arr_in {v : Value} (hv : Value.okWide Try.prog W .any 0 36 v) (h : DataW.Trod enc Try.prog W 0 (fun _ => true) true 36 v d p) : ∃ x y : Int, v = .agg #[.int .i64 x, .int .i64 y] ∧ (Lit.int .i64 x).wf = true ∧ (Lit.int .i64 y).wf = true := by
  simp only [Value.okWide, Try.underlying36] at hv
  obtain ⟨cs, rfl, hsz, _⟩ := hv
  obtain ⟨l⟩ := cs
  have hs2 : l.length = 2 := hsz.trans (by kernel_rfl)
  match l, hs2 with
  | [c0, c1], _ =>
    obtain ⟨fuel, hf⟩ := h
    obtain ⟨xs, m, _, _, _, hxl, hg⟩ := DataW.trod_array Try.underlying36 hf
    match xs, hxl with
    | [y0, y1], _ =>
      have h0 := hg 0 (by decide)
      have h1 := hg 1 (by decide)
      rw [show Try.prog.cellsOf 3 = 1 by kernel_rfl] at h0 h1
      obtain ⟨x, e0, _, w0⟩ := DataW.trod_int Try.underlying3 (h0.trans rfl)
      obtain ⟨y, e1, _, w1⟩ := DataW.trod_int Try.underlying3 (h1.trans rfl)
      simp [Value.cells] at e0 e1
      subst e0 e1
      exact ⟨x, y, rfl, w0, w1⟩
end
end Go.Proofs.Ytnggcegfieeonaa.Nx
