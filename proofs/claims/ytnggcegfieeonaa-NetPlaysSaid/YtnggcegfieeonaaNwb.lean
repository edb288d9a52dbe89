/- What is proved: what the network's methods told, set, New and Send come to. No condition but what each theorem says. -/
import Derived.Test.YtnggcegfieeonaaNwa
namespace Go.Proofs.Ytnggcegfieeonaa.Nx
open Go.RowKit Go.Proofs.YtnggcegfieeonaaW.PrintWords Go.Proofs.YtnggcegfieeonaaW.PrintLast Go.Proofs.YtnggcegfieeonaaW.PrintMore
open Go.Proofs.Ytnggcegfieeonaa.PNetFull
set_option linter.unusedVariables false
set_option linter.unusedSimpArgs false
def told (S : Net) (m : Mail) : Mail := { m with age := wrap64 (S.now - m.age) }
set_option maxHeartbeats 8000000 in
set_option maxRecDepth 100000 in
theorem told_calls {B : Nat} {w : World} {g : Nat} {v : Value} {S : Net} (h : NetAt B w g v S) (m : Mail) :
    Calls Try.prog 40 #[.pointer (some ⟨g, 0, none⟩), m.val] w fun e w' => e = .returned (told S m).val ∧ Below w.heap.size w w' := by
  have hu55 := Try.underlying55
  have hu29 := Try.underlying29
  have HN := Aside0.mk h
  clear h
  unfold Mail.val
  go_enter Try.func40, Try.ntmps40
  go_wp2_with (first
    | ((with_reducible refine gate_dst (N := 3) rfl ?_); refine box_event ?hg (N := 3) ?hd (cs := #[.int .i64 m.id, .int .i64 m.frm, .int .i64 m.to_, .string m.body, .int .i64 m.age]) (t := 29) ?hr ?_; (case hd => rfl); (case hg => rfl); (case hr => first | (go_simp; done) | (go_simp; rfl)); intro gb hg w1 hbox hb; have HB1 := Aside0.mk hb; have HG1 := Aside0.mk hg; have HX1 := Aside0.mk hbox; have HN1 := Aside0.mk (HN.out.below hb); clear hbox hb hg)
    | ((with_reducible refine gate_dst (N := 4) rfl ?_); refine box_event ?hg (N := 4) ?hd (cs := #[.int .i64 0, .int .i64 0, .int .i64 0, .string ⟨#[]⟩, .int .i64 0]) (t := 29) ?hr ?_; (case hd => rfl); (case hg => rfl); (case hr => first | (go_simp; done) | (go_simp; rfl)); intro gc hg w2 hbox hb; have HB2 := Aside0.mk (HB1.out.trans (hb.mono HB1.out.size)); have HG2 := Aside0.mk hg; have HX2 := Aside0.mk hbox; have HN2 := Aside0.mk (HN1.out.below hb); have HX1' := Aside0.mk ((hb.block gb (blk_lt HX1.out)).trans HX1.out); clear hbox hb hg))
  have hc2 := HN2.out.cell2
  have hx4 := blk_cell HX1'.out 4
  have hy4 := blk_frozen HX1'.out 4
  simp only [List.getElem?_toArray, List.getElem?_cons_zero, List.getElem?_cons_succ] at hx4
  go_region
  all_goals
    rw [i64_w]
    have HB3 := Aside0.mk ((HB2.out.setCell (p := ⟨gb, 4, none⟩) (Nat.le_of_eq HG1.out.symm) (.int .i64 (wrap64 (S.now - m.age)))).drew)
    have HX3 := Aside0.mk (blk_drew (blk_set HX1'.out 4 (.int .i64 (wrap64 (S.now - m.age)))))
    have hne : gc ≠ gb := fun e => by have h1 := blk_lt HX1.out; have h2 := HG2.out; omega
    have HY3 := Aside0.mk (blk_drew (blk_far (p := ⟨gb, 4, none⟩) HX2.out hne (.int .i64 (wrap64 (S.now - m.age)))))
    generalize (w2.setCell ⟨gb, 4, none⟩ (.int .i64 (wrap64 (S.now - m.age)))).drew = w3 at HB3 HX3 HY3 ⊢
    have hx0 := blk_cell HX3.out 0
    have hx1 := blk_cell HX3.out 1
    have hx2 := blk_cell HX3.out 2
    have hx3 := blk_cell HX3.out 3
    have hx4' := blk_cell HX3.out 4
    have hz0 := blk_cell HY3.out 0
    have hz1 := blk_cell HY3.out 1
    have hz2 := blk_cell HY3.out 2
    have hz3 := blk_cell HY3.out 3
    have hz4 := blk_cell HY3.out 4
    have hf0 := blk_frozen HY3.out 0
    have hf1 := blk_frozen HY3.out 1
    have hf2 := blk_frozen HY3.out 2
    have hf3 := blk_frozen HY3.out 3
    have hf4 := blk_frozen HY3.out 4
    clear hx4 hy4 hc2
    simp only [List.getElem?_toArray, List.getElem?_cons_zero, List.getElem?_cons_succ, List.setIfInBounds_toArray, List.set_cons_succ, List.set_cons_zero] at hx0 hx1 hx2 hx3 hx4' hz0 hz1 hz2 hz3 hz4
    go_wp2
    have hfin := blk_set (blk_set (blk_set (blk_set (blk_set HY3.out 0 (.int .i64 m.id)) 1 (.int .i64 m.frm)) 2 (.int .i64 m.to_)) 3 (.string m.body)) 4 (.int .i64 (wrap64 (S.now - m.age)))
    simp only [List.setIfInBounds_toArray, List.set_cons_succ, List.set_cons_zero] at hfin
    have hg : w.heap.size ≤ gc := by have h1 := HB1.out.size; have h2 := HG2.out; omega
    refine bodyPost_ret (results_cell_row rfl _ _ gc 29 #[.int .i64 m.id, .int .i64 m.frm, .int .i64 m.to_, .string m.body, .int .i64 (wrap64 (S.now - m.age))] (0, 0) _ rfl hfin Try.underlying29 rfl (by kernel_rfl)) rfl ?_
    exact ⟨rfl, ((((HB3.out.setCell (p := ⟨gc, 0, none⟩) hg _).setCell (p := ⟨gc, 1, none⟩) hg _).setCell (p := ⟨gc, 2, none⟩) hg _).setCell (p := ⟨gc, 3, none⟩) hg _).setCell (p := ⟨gc, 4, none⟩) hg _⟩

set_option maxHeartbeats 8000000 in
set_option maxRecDepth 100000 in
theorem set_false {B : Nat} {w : World} {g : Nat} {v : Value} {S : Net} (h : NetAt B w g v S) (a b : Int) (x : Bool) (h1 : two a b = false) :
    Calls Try.prog 42 #[.pointer (some ⟨g, 0, none⟩), .int .i64 a, .int .i64 b, .bool x] w fun e w' => e = .returned (.bool false) ∧ Drawn0 w w' := by
  have hu55 := Try.underlying55
  have hu53 := Try.underlying53
  have hu52 := Try.underlying52
  have H2 := Aside0.mk (show net_two.f a b = some false by rw [two_told, h1])
  have HN := Aside0.mk h
  clear h h1
  go_enter Try.func42, Try.ntmps42
  go_wp2_with (first | (go_at_call 36; (with_reducible refine (net_two.calls a b false _ H2.out).mono ?_); rintro e w2 ⟨rfl, ⟨nd, rfl⟩⟩))
  go_ret
  exact ⟨rfl, _, rfl⟩
set_option maxHeartbeats 8000000 in
set_option maxRecDepth 100000 in
theorem set_same {B : Nat} {w : World} {g : Nat} {v : Value} {S : Net} (h : NetAt B w g v S) (a b : Nat) (ha : a < 64) (hb : b < 64) (hab : a ≠ b) (x : Bool) (h1 : S.P (a * 64 + b) = x) :
    Calls Try.prog 42 #[.pointer (some ⟨g, 0, none⟩), .int .i64 a, .int .i64 b, .bool x] w fun e w' => e = .returned (.bool false) ∧ Drawn0 w w' := by
  have hu55 := Try.underlying55
  have hu53 := Try.underlying53
  have hu52 := Try.underlying52
  have hc3 := h.cellP a b ha hb
  rw [h1] at hc3
  have H2 := Aside0.mk (two_true a b ha hb hab)
  have HN := Aside0.mk h
  clear h h1
  have e0 : decide (0 ≤ (a : Int)) = true := decide_eq_true (by omega)
  have e1 : decide ((a : Int) < 64) = true := decide_eq_true (by omega)
  have e2 : decide (0 ≤ (b : Int)) = true := decide_eq_true (by omega)
  have e3 : decide ((b : Int) < 64) = true := decide_eq_true (by omega)
  go_enter Try.func42, Try.ntmps42
  go_wp2_with (first | (go_at_call 36; (with_reducible refine (net_two.calls a b true _ H2.out).mono ?_); rintro e w2 ⟨rfl, ⟨nd, rfl⟩⟩))
  go_ret
  exact ⟨rfl, _, rfl⟩
set_option maxHeartbeats 8000000 in
set_option maxRecDepth 100000 in
theorem set_new {B : Nat} {w : World} {g : Nat} {v : Value} {S : Net} (h : NetAt B w g v S) (a b : Nat) (ha : a < 64) (hb : b < 64) (hab : a ≠ b) (x : Bool) (h1 : S.P (a * 64 + b) = !x) :
    Calls Try.prog 42 #[.pointer (some ⟨g, 0, none⟩), .int .i64 a, .int .i64 b, .bool x] w fun e w' => e = .returned (.bool true) ∧ NetAt B w' g v { S with P := fun i => if i = b * 64 + a then x else if i = a * 64 + b then x else S.P i } ∧ Kp B w g v w' v := by
  have hu55 := Try.underlying55
  have hu53 := Try.underlying53
  have hu52 := Try.underlying52
  have hc3 := h.cellP a b ha hb
  rw [h1] at hc3
  have hc4 := h.cellP b a hb ha
  have hf3 := h.frozen (3 + a * 64 + b)
  have hf4 := h.frozen (3 + b * 64 + a)
  have ebx : ((!x) == x) = false := by cases x <;> rfl
  have H2 := Aside0.mk (two_true a b ha hb hab)
  have HN := Aside0.mk h
  clear h h1
  have e0 : decide (0 ≤ (a : Int)) = true := decide_eq_true (by omega)
  have e1 : decide ((a : Int) < 64) = true := decide_eq_true (by omega)
  have e2 : decide (0 ≤ (b : Int)) = true := decide_eq_true (by omega)
  have e3 : decide ((b : Int) < 64) = true := decide_eq_true (by omega)
  have i0 : (0 : Int) ≤ (a : Int) := Int.natCast_nonneg _
  have i1 : (a : Int) < 64 := by omega
  have i2 : (0 : Int) ≤ (b : Int) := Int.natCast_nonneg _
  have i3 : (b : Int) < 64 := by omega
  have nee : 3 + a * 64 + b ≠ 3 + b * 64 + a := by omega
  go_enter Try.func42, Try.ntmps42
  go_wp2_with (first | (go_at_call 36; (with_reducible refine (net_two.calls a b true _ H2.out).mono ?_); rintro e w2 ⟨rfl, ⟨nd, rfl⟩⟩))
  go_region
  all_goals
    go_wp2
    go_ret
    exact ⟨rfl, ((HN.out.drewN (nd + 1)).setP a b ha hb x).setP b a hb ha x, ((Kp.of_below HN.out.base (pw_below_drewN (Below.refl _ _) (nd + 1))).set HN.out.ge _ _).set HN.out.ge _ _⟩

def setF (S : Net) (a b : Int) (x : Bool) : Bool × Net :=
  if two a b = true ∧ S.P (a.toNat * 64 + b.toNat) ≠ x then (true, { S with P := fun i => if i = b.toNat * 64 + a.toNat then x else if i = a.toNat * 64 + b.toNat then x else S.P i }) else (false, S)
theorem two_inv {a b : Int} (h : two a b = true) : ∃ m n : Nat, a = (m : Int) ∧ b = (n : Int) ∧ m < 64 ∧ n < 64 ∧ m ≠ n := by
  unfold two at h
  rw [Bool.and_eq_true, Bool.and_eq_true, decide_eq_true_iff, decide_eq_true_iff, bne_iff_ne] at h
  obtain ⟨h1, h2, h3⟩ := h
  exact ⟨a.toNat, b.toNat, by omega, by omega, by omega, by omega, by omega⟩
theorem Drawn0.kp {B : Nat} {w w' : World} {g : Nat} {v : Value} (hB : B ≤ w.heap.size) (h : Drawn0 w w') : Kp B w g v w' v := by
  obtain ⟨n, rfl⟩ := h
  exact Kp.of_below hB (pw_below_drewN (Below.refl _ _) n)
theorem NetAt.drawn {B : Nat} {w w' : World} {g : Nat} {v : Value} {S : Net} (h : NetAt B w g v S) (hd : Drawn0 w w') : NetAt B w' g v S := by
  obtain ⟨n, rfl⟩ := hd
  exact h.drewN n
theorem set_calls {B : Nat} {w : World} {g : Nat} {v : Value} {S : Net} (h : NetAt B w g v S) (a b : Int) (x : Bool) :
    Calls Try.prog 42 #[.pointer (some ⟨g, 0, none⟩), .int .i64 a, .int .i64 b, .bool x] w fun e w' => e = .returned (.bool (setF S a b x).1) ∧ NetAt B w' g v (setF S a b x).2 ∧ Kp B w g v w' v := by
  by_cases h1 : two a b = true
  · obtain ⟨m, n, rfl, rfl, hm, hn, hne⟩ := two_inv h1
    by_cases h2 : S.P (m * 64 + n) = x
    · refine (set_same h m n hm hn hne x h2).mono fun e w' hh => ?_
      rw [setF, if_neg (by rintro ⟨_, h3⟩; exact h3 h2)]
      exact ⟨hh.1, h.drawn hh.2, Drawn0.kp h.base hh.2⟩
    · refine (set_new h m n hm hn hne x (by cases x <;> simp at h2 ⊢ <;> exact h2)).mono fun e w' hh => ?_
      rw [setF, if_pos ⟨h1, h2⟩]
      exact hh
  · refine (set_false h a b x (by simpa using h1)).mono fun e w' hh => ?_
    rw [setF, if_neg (by rintro ⟨h3, _⟩; exact h1 h3)]
    exact ⟨hh.1, h.drawn hh.2, Drawn0.kp h.base hh.2⟩

set_option maxHeartbeats 8000000 in
set_option maxRecDepth 100000 in
theorem part_calls {B : Nat} {w : World} {g : Nat} {v : Value} {S : Net} (h : NetAt B w g v S) (a b : Int) :
    Calls Try.prog 14 #[.pointer (some ⟨g, 0, none⟩), .int .i64 a, .int .i64 b] w fun e w' => e = .returned (.bool (setF S a b true).1) ∧ NetAt B w' g v (setF S a b true).2 ∧ Kp B w g v w' v := by
  have HN := Aside0.mk h
  clear h
  go_enter Try.func14, Try.ntmps14
  go_wp2_with (first | (go_at_call 42; (with_reducible refine (set_calls HN.out a b true).mono ?_); rintro e w2 ⟨rfl, hn, hk⟩; have HN2 := Aside0.mk hn; have HK2 := Aside0.mk hk; clear hn hk))
  go_ret
  exact ⟨rfl, HN2.out, HK2.out⟩
set_option maxHeartbeats 8000000 in
set_option maxRecDepth 100000 in
theorem join_calls {B : Nat} {w : World} {g : Nat} {v : Value} {S : Net} (h : NetAt B w g v S) (a b : Int) :
    Calls Try.prog 19 #[.pointer (some ⟨g, 0, none⟩), .int .i64 a, .int .i64 b] w fun e w' => e = .returned (.bool (setF S a b false).1) ∧ NetAt B w' g v (setF S a b false).2 ∧ Kp B w g v w' v := by
  have HN := Aside0.mk h
  clear h
  go_enter Try.func19, Try.ntmps19
  go_wp2_with (first | (go_at_call 42; (with_reducible refine (set_calls HN.out a b false).mono ?_); rintro e w2 ⟨rfl, hn, hk⟩; have HN2 := Aside0.mk hn; have HK2 := Aside0.mk hk; clear hn hk))
  go_ret
  exact ⟨rfl, HN2.out, HK2.out⟩

/-- What Send answers, and the network behind it. -/
def sendF (S : Net) (a b : Int) (s : ByteArray) : Int × Bool × Net :=
  if two a b = true ∧ s.size ≤ 80000 ∧ S.mail.length < 2000 then (wrap64 (S.last + 1), true, { S with mail := S.mail ++ [⟨wrap64 (S.last + 1), a, b, s, S.now⟩], last := wrap64 (S.last + 1) }) else (0, false, S)
set_option maxHeartbeats 8000000 in
set_option maxRecDepth 100000 in
theorem send_yes {B : Nat} {w : World} {g : Nat} {v : Value} {S : Net} (h : NetAt B w g v S) (a b : Int) (s : ByteArray) (h1 : two a b = true) (h2 : s.size ≤ 80000) (h3 : S.mail.length < 2000) :
    Calls Try.prog 11 #[.pointer (some ⟨g, 0, none⟩), .int .i64 a, .int .i64 b, .string s] w fun e w' => e = .returned (.tuple #[.int .i64 (wrap64 (S.last + 1)), .bool true]) ∧ ∃ v', NetAt B w' g v' { S with mail := S.mail ++ [⟨wrap64 (S.last + 1), a, b, s, S.now⟩], last := wrap64 (S.last + 1) } ∧ Kp B w g v w' v' := by
  have hu55 := Try.underlying55
  have hu29 := Try.underlying29
  have hc0 := h.cell0
  obtain ⟨A, c, rfl, _, _⟩ := h.slice
  have H2 := Aside0.mk (show net_two.f a b = some true by rw [two_told, h1])
  have e1 : decide ((s.size : Int) > 80000) = false := decide_eq_false (by omega)
  have e2 : decide ((S.mail.length : Int) ≥ 2000) = false := decide_eq_false (by omega)
  have HL := Aside0.mk (show S.mail.length < 1000000 by omega)
  have HN := Aside0.mk h
  clear h h1 h2 h3
  go_enter Try.func11, Try.ntmps11
  go_wp2_with (first
    | (go_at_call 36; (with_reducible refine (net_two.calls a b true _ H2.out).mono ?_); rintro e w2 ⟨rfl, ⟨nd, rfl⟩⟩)
    | (have HN2 := Aside0.mk (HN.out.drewN nd); go_at_call 37; (refine (put_calls HN2.out ⟨0, a, b, s, 0⟩ HL.out).mono ?_); rintro e w2 ⟨rfl, v', hn, hk⟩; have HN3 := Aside0.mk hn; have HK3 := Aside0.mk ((Kp.of_below HN.out.base (pw_below_drewN (Below.refl _ _) nd)).trans hk); clear hn hk))
  go_ret2
  exact ⟨rfl, v', HN3.out, HK3.out⟩
set_option maxHeartbeats 8000000 in
set_option maxRecDepth 100000 in
theorem send_no {B : Nat} {w : World} {g : Nat} {v : Value} {S : Net} (h : NetAt B w g v S) (a b : Int) (s : ByteArray) (t : Bool) (ht : two a b = t)
    (hh : (t = false) ∨ (t = true ∧ decide ((s.size : Int) > 80000) = true) ∨ (t = true ∧ decide ((s.size : Int) > 80000) = false ∧ decide ((S.mail.length : Int) ≥ 2000) = true)) :
    Calls Try.prog 11 #[.pointer (some ⟨g, 0, none⟩), .int .i64 a, .int .i64 b, .string s] w fun e w' => e = .returned (.tuple #[.int .i64 0, .bool false]) ∧ Drawn0 w w' := by
  have hu55 := Try.underlying55
  have hc0 := h.cell0
  obtain ⟨A, c, rfl, _, _⟩ := h.slice
  have H2 := Aside0.mk (show net_two.f a b = some t by rw [two_told, ht])
  have HN := Aside0.mk h
  clear h ht
  rcases hh with rfl | ⟨rfl, e1⟩ | ⟨rfl, e1, e2⟩
  all_goals
    go_enter Try.func11, Try.ntmps11
    go_wp2_with (first
      | (go_at_call 36; (with_reducible refine (net_two.calls a b _ _ H2.out).mono ?_); rintro e w2 ⟨rfl, ⟨nd, rfl⟩⟩))
    go_ret2
    exact ⟨rfl, _, rfl⟩
theorem send_calls {B : Nat} {w : World} {g : Nat} {v : Value} {S : Net} (h : NetAt B w g v S) (a b : Int) (s : ByteArray) :
    Calls Try.prog 11 #[.pointer (some ⟨g, 0, none⟩), .int .i64 a, .int .i64 b, .string s] w fun e w' => e = .returned (.tuple #[.int .i64 (sendF S a b s).1, .bool (sendF S a b s).2.1]) ∧ ∃ v', NetAt B w' g v' (sendF S a b s).2.2 ∧ Kp B w g v w' v' := by
  by_cases hc : two a b = true ∧ s.size ≤ 80000 ∧ S.mail.length < 2000
  · refine (send_yes h a b s hc.1 hc.2.1 hc.2.2).mono fun e w' hh => ?_
    rw [sendF, if_pos hc]
    exact hh
  · refine (send_no h a b s (two a b) rfl ?_).mono fun e w' hh => ?_
    · by_cases h1 : two a b = true
      · by_cases h2 : s.size ≤ 80000
        · exact .inr (.inr ⟨h1, decide_eq_false (by omega), decide_eq_true (by have : ¬ S.mail.length < 2000 := fun h3 => hc ⟨h1, h2, h3⟩; omega)⟩)
        · exact .inr (.inl ⟨h1, decide_eq_true (by omega)⟩)
      · exact .inl (by simpa using h1)
    · rw [sendF, if_neg hc]
      exact ⟨hh.1, v, h.drawn hh.2, Drawn0.kp h.base hh.2⟩
end Go.Proofs.Ytnggcegfieeonaa.Nx
