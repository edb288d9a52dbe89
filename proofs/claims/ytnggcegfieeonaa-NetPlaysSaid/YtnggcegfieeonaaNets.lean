/- What is proved: how a network lies in memory, and what keeps it there. No condition but what each theorem says. -/
import Derived.Test.YtnggcegfieeonaaPNetFullx1
import Derived.Deep.MidRow
import Derived.Deep.AppendLies
import Derived.Deep.RegionHeld3
import Derived.Deep.RegionHeldLaw
import Derived.Deep.RegionLaw
import Derived.WalkSpells
import Derived.StillTactics
import Derived.Laws.Pointers
namespace Go.Proofs.Ytnggcegfieeonaa.Nx
open Go.RowKit Go.Proofs.YtnggcegfieeonaaW.PrintWords Go.Proofs.YtnggcegfieeonaaW.PrintLast Go.Proofs.YtnggcegfieeonaaW.PrintMore
set_option linter.unusedVariables false

structure Mail where
  id : Int
  frm : Int
  to_ : Int
  body : ByteArray
  age : Int
def Mail.cells (m : Mail) : List Value := [.int .i64 m.id, .int .i64 m.frm, .int .i64 m.to_, .string m.body, .int .i64 m.age]
def Mail.val (m : Mail) : Value := .agg #[.int .i64 m.id, .int .i64 m.frm, .int .i64 m.to_, .string m.body, .int .i64 m.age]
def vals (l : List Mail) : List Value := l.flatMap Mail.cells
theorem vals_length (l : List Mail) : (vals l).length = l.length * 5 := by
  unfold vals
  induction l with
  | nil => rfl
  | cons m l ih => rw [List.flatMap_cons, List.length_append, ih, List.length_cons]; simp [Mail.cells]; omega
theorem vals_app (l m : List Mail) : vals (l ++ m) = vals l ++ vals m := by unfold vals; simp
theorem vals_take (l : List Mail) (i : Nat) : (vals l).take (i * 5) = vals (l.take i) := by
  induction l generalizing i with
  | nil => simp [vals]
  | cons m l ih =>
    cases i with
    | zero => simp [vals]
    | succ i =>
      rw [List.take_succ_cons, show vals (m :: l) = m.cells ++ vals l from rfl, show vals (m :: l.take i) = m.cells ++ vals (l.take i) from rfl, ← ih i, show (i + 1) * 5 = m.cells.length + i * 5 by simp [Mail.cells]; omega, List.take_length_add_append]
theorem vals_drop (l : List Mail) (i : Nat) : (vals l).drop (i * 5) = vals (l.drop i) := by
  induction l generalizing i with
  | nil => simp [vals]
  | cons m l ih =>
    cases i with
    | zero => simp [vals]
    | succ i =>
      rw [List.drop_succ_cons, show vals (m :: l) = m.cells ++ vals l from rfl, ← ih i, show (i + 1) * 5 = m.cells.length + i * 5 by simp [Mail.cells]; omega, List.drop_append]
      simp
theorem vals_at (l : List Mail) (i j : Nat) (hi : i < l.length) (hj : j < 5) : (vals l)[i * 5 + j]? = (l[i].cells)[j]? := by
  have h : ((vals l).drop (i * 5))[j]? = (l[i].cells)[j]? := by
    rw [vals_drop, List.drop_eq_getElem_cons hi, show vals (l[i] :: l.drop (i + 1)) = l[i].cells ++ vals (l.drop (i + 1)) from rfl, List.getElem?_append_left (by simpa [Mail.cells] using hj)]
  rw [← h, List.getElem?_drop]

structure Net where
  mail : List Mail
  last : Int
  now : Int
  P : Nat → Bool

/-- The cells of a network at a block. -/
structure Row (cs : Array Value) (v : Value) (S : Net) : Prop where
  size : cs.size = 4099
  c0 : cs[0]? = some v
  c1 : cs[1]? = some (.int .i64 S.last)
  c2 : cs[2]? = some (.int .i64 S.now)
  c3 : ∀ i, i < 4096 → cs[3 + i]? = some (.bool (S.P i))
structure NetAt (B : Nat) (w : World) (g : Nat) (v : Value) (S : Net) : Prop where
  ge : B ≤ g
  row : ∃ cs, w.heap[g]? = some (.cells cs 55 (0, 0)) ∧ Row cs v S
  own : w.ownsRow B 29 5 v S.mail.length (vals S.mail)

section
variable {B : Nat} {w : World} {g : Nat} {v : Value} {S : Net}
theorem NetAt.cell (h : NetAt B w g v S) (j : Nat) (u : Value) (hu : ∀ cs, Row cs v S → cs[j]? = some u) : w.cell? ⟨g, j, none⟩ = some u := by
  obtain ⟨cs, hb, hr⟩ := h.row
  rw [cell_of_row w g j cs 55 (0, 0) hb]
  exact hu cs hr
theorem NetAt.cell0 (h : NetAt B w g v S) : w.cell? ⟨g, 0, none⟩ = some v := h.cell 0 _ fun _ r => r.c0
theorem NetAt.cell1 (h : NetAt B w g v S) : w.cell? ⟨g, 1, none⟩ = some (.int .i64 S.last) := h.cell 1 _ fun _ r => r.c1
theorem NetAt.cell2 (h : NetAt B w g v S) : w.cell? ⟨g, 2, none⟩ = some (.int .i64 S.now) := h.cell 2 _ fun _ r => r.c2
theorem NetAt.cell3 (h : NetAt B w g v S) (i : Nat) (hi : i < 4096) : w.cell? ⟨g, 3 + i, none⟩ = some (.bool (S.P i)) := h.cell _ _ fun _ r => r.c3 i hi
theorem NetAt.cellP (h : NetAt B w g v S) (a b : Nat) (ha : a < 64) (hb : b < 64) : w.cell? ⟨g, 3 + a * 64 + b, none⟩ = some (.bool (S.P (a * 64 + b))) := by
  rw [Nat.add_assoc]
  exact h.cell3 _ (by omega)
theorem NetAt.frozen (h : NetAt B w g v S) (j : Nat) : w.frozen? ⟨g, j, none⟩ = false := by
  obtain ⟨cs, hb, hr⟩ := h.row
  simp [World.frozen?, hb]
theorem NetAt.lt (h : NetAt B w g v S) : g < w.heap.size := by
  obtain ⟨cs, hb, hr⟩ := h.row
  exact blk_lt hb
theorem NetAt.slice (h : NetAt B w g v S) : ∃ A c, v = .slice A S.mail.length c ∧ S.mail.length ≤ c ∧ c ≤ maxLen := by
  rcases h.own.2 with ⟨e, h0⟩ | ⟨b, c, cur, e, _, _, h1, h2, _⟩
  · exact ⟨none, 0, by rw [e, h0], by omega, Nat.zero_le _⟩
  · exact ⟨_, c, e, h1, h2⟩
theorem NetAt.ne (h : NetAt B w g v S) : v.ownBlock ≠ some g := by
  intro e
  obtain ⟨cs, hb, _⟩ := h.row
  rcases h.own.2 with ⟨e2, _⟩ | ⟨b, c, cur, e2, _, hh, _⟩
  · rw [e2] at e; simp [Value.ownBlock] at e
  · rw [e2] at e
    simp only [Value.ownBlock, Option.some.injEq] at e
    rw [e, hb] at hh
    injection hh with hh
    injection hh with _ ht
    cases ht

/-- What keeps the two blocks keeps the network. -/
theorem NetAt.keep {w' : World} (h : NetAt B w g v S) (hs : w.heap.size ≤ w'.heap.size) (hg : w'.heap[g]? = w.heap[g]?) (hv : ∀ b, v.ownBlock = some b → w'.heap[b]? = w.heap[b]?) : NetAt B w' g v S := by
  obtain ⟨cs, hb, hr⟩ := h.row
  refine ⟨h.ge, ⟨cs, by rw [hg]; exact hb, hr⟩, h.own.1, ?_⟩
  rcases h.own.2 with e | ⟨b, c, cur, e, h1, h2, h3⟩
  · exact .inl e
  · exact .inr ⟨b, c, cur, e, h1, by rw [hv b (by rw [e]; rfl)]; exact h2, h3⟩
theorem NetAt.own_lt (h : NetAt B w g v S) (b : Nat) (hb : v.ownBlock = some b) : B ≤ b ∧ b < w.heap.size := h.own.lt b hb
theorem NetAt.below {w' : World} (h : NetAt B w g v S) (hb : Below w.heap.size w w') : NetAt B w' g v S :=
  h.keep hb.size (hb.block g h.lt) fun b hv => hb.block b (h.own_lt b hv).2
theorem NetAt.alloc (h : NetAt B w g v S) (o : Obj) : NetAt B (w.alloc o) g v S := h.below (Below.alloc (Below.refl _ _) (Nat.le_refl _) o)
theorem NetAt.drew (h : NetAt B w g v S) : NetAt B w.drew g v S := h.below (Below.drew (Below.refl _ _))
theorem NetAt.drewN (h : NetAt B w g v S) (n : Nat) : NetAt B (w.drewN n) g v S := h.below (pw_below_drewN (Below.refl _ _) n)
theorem NetAt.far (h : NetAt B w g v S) {p : Addr} (u : Value) (h1 : p.block ≠ g) (h2 : v.ownBlock ≠ some p.block) : NetAt B (w.setCell p u) g v S :=
  h.keep (Nat.le_of_eq (by simp [World.setCell])) (Below.heap_setCell w p u g (Ne.symm h1)) fun b hv => Below.heap_setCell w p u b (by rintro rfl; exact h2 hv)

/-- A cell of the network is set. -/
theorem NetAt.set (h : NetAt B w g v S) (j : Nat) (u : Value) (v' : Value) (S' : Net) (hr : ∀ cs, Row cs v S → Row (cs.setIfInBounds j u) v' S') (ho : ∀ w' : World, (∀ b, b ≠ g → w'.heap[b]? = w.heap[b]?) → w'.ownsRow B 29 5 v' S'.mail.length (vals S'.mail)) : NetAt B (w.setCell ⟨g, j, none⟩ u) g v' S' := by
  obtain ⟨cs, hb, hrow⟩ := h.row
  exact ⟨h.ge, ⟨_, blk_set hb j u, hr cs hrow⟩, ho _ fun b hne => Below.heap_setCell w ⟨g, j, none⟩ u b hne⟩
theorem NetAt.own_set (h : NetAt B w g v S) (w' : World) (hw : ∀ b, b ≠ g → w'.heap[b]? = w.heap[b]?) : w'.ownsRow B 29 5 v S.mail.length (vals S.mail) := by
  refine ⟨h.own.1, ?_⟩
  rcases h.own.2 with e | ⟨b, c, cur, e, h1, h2, h3⟩
  · exact .inl e
  · refine .inr ⟨b, c, cur, e, h1, ?_, h3⟩
    rw [hw b (by rintro rfl; exact h.ne (by rw [e]; rfl))]
    exact h2
theorem row_set1 (cs : Array Value) (h : Row cs v S) (x : Int) : Row (cs.setIfInBounds 1 (.int .i64 x)) v { S with last := x } := by
  have hz := h.size
  refine ⟨by simp [hz], ?_, ?_, ?_, fun i hi => ?_⟩
  · rw [Array.getElem?_setIfInBounds_ne (by decide)]; exact h.c0
  · rw [Array.getElem?_setIfInBounds_self_of_lt (by omega)]
  · rw [Array.getElem?_setIfInBounds_ne (by decide)]; exact h.c2
  · rw [Array.getElem?_setIfInBounds_ne (by omega)]; exact h.c3 i hi
theorem row_set2 (cs : Array Value) (h : Row cs v S) (x : Int) : Row (cs.setIfInBounds 2 (.int .i64 x)) v { S with now := x } := by
  have hz := h.size
  refine ⟨by simp [hz], ?_, ?_, ?_, fun i hi => ?_⟩
  · rw [Array.getElem?_setIfInBounds_ne (by decide)]; exact h.c0
  · rw [Array.getElem?_setIfInBounds_ne (by decide)]; exact h.c1
  · rw [Array.getElem?_setIfInBounds_self_of_lt (by omega)]
  · rw [Array.getElem?_setIfInBounds_ne (by omega)]; exact h.c3 i hi
theorem row_set3 (cs : Array Value) (h : Row cs v S) (q : Nat) (hq : q < 4096) (x : Bool) : Row (cs.setIfInBounds (3 + q) (.bool x)) v { S with P := fun i => if i = q then x else S.P i } := by
  have hz := h.size
  refine ⟨by simp [hz], ?_, ?_, ?_, fun i hi => ?_⟩
  · rw [Array.getElem?_setIfInBounds_ne (by omega)]; exact h.c0
  · rw [Array.getElem?_setIfInBounds_ne (by omega)]; exact h.c1
  · rw [Array.getElem?_setIfInBounds_ne (by omega)]; exact h.c2
  · by_cases e : i = q
    · subst e
      rw [Array.getElem?_setIfInBounds_self_of_lt (by omega)]
      show _ = some (Value.bool (if i = i then x else S.P i))
      rw [if_pos rfl]
    · rw [Array.getElem?_setIfInBounds_ne (by omega)]
      show _ = some (Value.bool (if i = q then x else S.P i))
      rw [if_neg e]; exact h.c3 i hi
theorem row_set0 (cs : Array Value) (h : Row cs v S) (v' : Value) (l : List Mail) : Row (cs.setIfInBounds 0 v') v' { S with mail := l } := by
  have hz := h.size
  refine ⟨by simp [hz], ?_, ?_, ?_, fun i hi => ?_⟩
  · rw [Array.getElem?_setIfInBounds_self_of_lt (by omega)]
  · rw [Array.getElem?_setIfInBounds_ne (by decide)]; exact h.c1
  · rw [Array.getElem?_setIfInBounds_ne (by decide)]; exact h.c2
  · rw [Array.getElem?_setIfInBounds_ne (by omega)]; exact h.c3 i hi
/-- Something was appended to the messages, and the new slice is stored. -/
theorem NetAt.appended {w1 : World} (h : NetAt B w g v S) (hg : w.grownBy w1 v.ownBlock) (l : List Mail) (v' : Value) (ho : w1.ownsRow B 29 5 v' l.length (vals l)) : NetAt B (w1.setCell ⟨g, 0, none⟩ v') g v' { S with mail := l } := by
  obtain ⟨cs, hb, hr⟩ := h.row
  have hb1 : w1.heap[g]? = some (.cells cs 55 (0, 0)) := by rw [hg.block g h.lt (Ne.symm h.ne)]; exact hb
  refine ⟨h.ge, ⟨_, blk_set hb1 0 v', row_set0 cs hr v' l⟩, ho.1, ?_⟩
  rcases ho.2 with e | ⟨b, c, cur, e, h1, h2, h3⟩
  · exact .inl e
  · refine .inr ⟨b, c, cur, e, h1, ?_, h3⟩
    rw [Below.heap_setCell w1 ⟨g, 0, none⟩ v' b (by rintro rfl; rw [hb1] at h2; injection h2 with h2; injection h2 with _ ht; cases ht)]
    exact h2
theorem NetAt.set1 (h : NetAt B w g v S) (x : Int) : NetAt B (w.setCell ⟨g, 1, none⟩ (.int .i64 x)) g v { S with last := x } := h.set 1 _ v _ (fun cs r => row_set1 cs r x) h.own_set
theorem NetAt.set2 (h : NetAt B w g v S) (x : Int) : NetAt B (w.setCell ⟨g, 2, none⟩ (.int .i64 x)) g v { S with now := x } := h.set 2 _ v _ (fun cs r => row_set2 cs r x) h.own_set
theorem NetAt.set3 (h : NetAt B w g v S) (q : Nat) (hq : q < 4096) (x : Bool) : NetAt B (w.setCell ⟨g, 3 + q, none⟩ (.bool x)) g v { S with P := fun i => if i = q then x else S.P i } := h.set _ _ v _ (fun cs r => row_set3 cs r q hq x) h.own_set
theorem NetAt.setP (h : NetAt B w g v S) (a b : Nat) (ha : a < 64) (hb : b < 64) (x : Bool) : NetAt B (w.setCell ⟨g, 3 + a * 64 + b, none⟩ (.bool x)) g v { S with P := fun i => if i = a * 64 + b then x else S.P i } := by
  rw [Nat.add_assoc]
  exact h.set3 _ (by omega) x
end

theorem keep_set {w w1 : World} {g : Nat} {row : Option Nat} (h : KeepBut w w1 g row) {p : Addr} (hp : w.heap.size ≤ p.block) (u : Value) : KeepBut w (w1.setCell p u) g row :=
  ⟨by simpa [World.setCell] using h.1, fun i hi hg hr => (Below.heap_setCell w1 p u i (by omega)).trans (h.2 i hi hg hr)⟩
theorem keepB {w w1 w2 : World} {g : Nat} {row : Option Nat} (h : KeepBut w w1 g row) (hb : Below w1.heap.size w1 w2) : KeepBut w w2 g row :=
  ⟨Nat.le_trans h.1 hb.size, fun i hi h1 h2 => (hb.block i (Nat.lt_of_lt_of_le hi h.1)).trans (h.2 i hi h1 h2)⟩
theorem keepA {w w1 : World} {g : Nat} {row : Option Nat} (h : KeepBut w w1 g row) (o : Obj) : KeepBut w (w1.alloc o) g row := keepB h (Below.alloc (Below.refl _ _) (Nat.le_refl _) o)
theorem keepD {w w1 : World} {g : Nat} {row : Option Nat} (h : KeepBut w w1 g row) : KeepBut w w1.drew g row := keepB h (Below.drew (Below.refl _ _))
theorem keepN {w w1 : World} {g : Nat} {row : Option Nat} (h : KeepBut w w1 g row) (n : Nat) : KeepBut w (w1.drewN n) g row := keepB h (pw_below_drewN (Below.refl _ _) n)
theorem keep_grown {w w1 w2 : World} {g : Nat} {row : Option Nat} (h : KeepBut w w1 g row) (hg : w1.grownBy w2 row) : KeepBut w w2 g row :=
  ⟨Nat.le_trans h.1 hg.size, fun i hi h1 h2 => (hg.block i (Nat.lt_of_lt_of_le hi h.1) h2).trans (h.2 i hi h1 h2)⟩
/-- What a call that may change the network has left as it was. -/
structure Kp (B : Nat) (w : World) (g : Nat) (v : Value) (w' : World) (v' : Value) : Prop where
  below : Below B w w'
  keep : KeepBut w w' g v.ownBlock
  own : v'.ownBlock = v.ownBlock ∨ ∃ b, v'.ownBlock = some b ∧ w.heap.size ≤ b
theorem Kp.refl (B : Nat) (w : World) (g : Nat) (v : Value) : Kp B w g v w v := ⟨Below.refl _ _, KeepBut.refl _ _ _, .inl rfl⟩
theorem Kp.trans {B : Nat} {w w1 w2 : World} {g : Nat} {v v1 v2 : Value} (h : Kp B w g v w1 v1) (k : Kp B w1 g v1 w2 v2) : Kp B w g v w2 v2 := by
  have hs := h.keep.1
  refine ⟨h.below.trans k.below, ⟨Nat.le_trans hs k.keep.1, fun i hi h1 h2 => ?_⟩, ?_⟩
  · refine (k.keep.2 i (Nat.lt_of_lt_of_le hi hs) h1 ?_).trans (h.keep.2 i hi h1 h2)
    rcases h.own with e | ⟨b, e, hb⟩
    · rw [e]; exact h2
    · rw [e]; intro e2; injection e2 with e2; omega
  · rcases k.own with e | ⟨b, e, hb⟩
    · rw [e]; exact h.own
    · exact .inr ⟨b, e, by omega⟩
theorem Kp.of_below {B : Nat} {w w1 : World} {g : Nat} {v : Value} (hB : B ≤ w.heap.size) (h : Below w.heap.size w w1) : Kp B w g v w1 v := ⟨h.mono hB, KeepBut.of_below h _ _, .inl rfl⟩
theorem Kp.set {B : Nat} {w w1 : World} {g : Nat} {v v1 : Value} (h : Kp B w g v w1 v1) (hg : B ≤ g) (j : Nat) (u : Value) : Kp B w g v (w1.setCell ⟨g, j, none⟩ u) v1 := ⟨h.below.setCell hg u, h.keep.set_ j u, h.own⟩
theorem NetAt.base {B : Nat} {w : World} {g : Nat} {v : Value} {S : Net} (h : NetAt B w g v S) : B ≤ w.heap.size := Nat.le_trans h.ge (Nat.le_of_lt h.lt)
theorem info29 : (Try.prog.info? 29).map (fun i => (i.zero, i.size, i.bytes)) = some (some (.agg #[.int .i64 0, .int .i64 0, .int .i64 0, .string ⟨#[]⟩, .int .i64 0]), 5, 48) := by kernel_rfl
end Go.Proofs.Ytnggcegfieeonaa.Nx
