/- What is proved: Rne, Rnf: see each part's head. No condition but what each theorem says. -/
import Derived.Test.YtnggcegfieeonaaPma
/- What is proved: what the document's Take and Drop come to. No condition but what each theorem says. -/
namespace Go.Proofs.Ytnggcegfieeonaa.Nx
open Go.RowKit Go.Proofs.YtnggcegfieeonaaW.PrintWords Go.Proofs.YtnggcegfieeonaaW.PrintLast Go.Proofs.YtnggcegfieeonaaW.PrintMore
open Go.Proofs.Ytnggcegfieeonaa.PNetPlays
set_option linter.unusedVariables false
set_option linter.unusedSimpArgs false
theorem Kr.trans {B : Nat} {w w1 w2 : World} {r : Nat} {v u v1 v2 : Value} (h : Kr B w r v u w1 v1) (k : Kr B w1 r v1 u w2 v2) : Kr B w r v u w2 v2 := by
  have hs := h.below.size
  refine ⟨h.below.trans k.below, fun i hi h1 h2 h3 => ?_, fun b hb => ?_⟩
  · refine (k.keep i (Nat.lt_of_lt_of_le hi hs) h1 (fun e => ?_) h3).trans (h.keep i hi h1 h2 h3)
    rcases h.own i e.symm with e2 | e2
    · exact h2 e2.symm
    · omega
  · rcases k.own b hb with e | e
    · exact h.own b e
    · exact .inr (by omega)
theorem Kr.box {B : Nat} {w w' : World} {r gb : Nat} {v u v' : Value} {o : Obj} (hk : Kr B w r v u w' v') (hb : w.heap[gb]? = some o) (h1 : gb ≠ r) (h2 : some gb ≠ v.ownBlock) (h3 : some gb ≠ u.ownBlock) : w'.heap[gb]? = some o := (hk.keep gb (blk_lt hb) h1 h2 h3).trans hb
theorem RAt.fresh {B : Nat} {w : World} {r : Nat} {v u : Value} {R : RNet} (h : RAt B w r v u R) {k : Nat} (hk : w.heap.size ≤ k) : k ≠ r ∧ some k ≠ v.ownBlock ∧ some k ≠ u.ownBlock :=
  ⟨fun e => by have := h.lt; omega, fun e => by have := Kd.R_lt h.own k e.symm; omega, fun e => by have := Kd.R_lt h.pown k e.symm; omega⟩
theorem which_told (which : Int) (hw : (Lit.int .i64 which).wf = true) (k : Nat) (hk : 0 < k) : heliographref14_Which.f which (k : Int) = some ((pickN which k : Nat) : Int) := (pick_told which hw k hk).1
def rTake (R : RNet) (which : Int) : Mail × Bool × RNet :=
  if (rReady R).length = 0 then (zeroMail, false, R)
  else ((rReady R).getD (pickN which (rReady R).length) zeroMail, true, rWithout R ((rReady R).getD (pickN which (rReady R).length) zeroMail).id)
set_option maxHeartbeats 8000000 in
set_option maxRecDepth 100000 in
theorem rTake_no {B : Nat} {w : World} {r : Nat} {v u : Value} {R : RNet} (h : RAt B w r v u R) (hl : R.prs.length < 1000000) (hm : R.mail.length < 1000000) (which : Int) (h0 : (rReady R).length = 0) :
    Calls Try.prog 23 #[.pointer (some ⟨r, 0, none⟩), .int .i64 which] w fun e w' => e = .returned (.tuple #[zeroMail.val, .bool false]) ∧ Below w.heap.size w w' := by
  have hu49 := Try.underlying49
  have hu29 := Try.underlying29
  have hz := zero29
  have HN := Aside0.mk h
  have HL := Aside0.mk hl
  have HM := Aside0.mk hm
  have HE := Aside0.mk h0
  clear h hl hm h0
  go_enter Try.func23, Try.ntmps23
  go_wp2_with (first
    | ((with_reducible refine gate_dst (N := 4) rfl ?_); refine box_event ?hg (N := 4) ?hd (cs := #[.int .i64 0, .int .i64 0, .int .i64 0, .string ⟨#[]⟩, .int .i64 0]) (t := 29) ?hr ?_; (case hd => rfl); (case hg => rfl); (case hr => first | (go_simp; done) | (go_simp; rfl)); intro gb hg w1 hbox hb; have HB1 := Aside0.mk hb; have HG1 := Aside0.mk hg; have HX1 := Aside0.mk hbox; have HN1 := Aside0.mk (HN.out.below hb); clear hbox hb hg)
    | (go_at_call 33; (with_reducible refine (rReady_calls HN1.out HL.out HM.out).mono ?_); rintro e w2 ⟨v9, rfl, ho, hb⟩; have HB2 := Aside0.mk (HB1.out.trans (hb.mono HB1.out.size)); have HX2 := Aside0.mk ((hb.block gb (blk_lt HX1.out)).trans HX1.out); obtain ⟨A9, c9, e9⟩ := Kd.R_slice ho; rw [HE.out] at e9; subst e9; clear ho hb)
    | (refine store_box rfl (.tmp 4) (.tmp 13) rfl gb _ (by rfl) rfl zeroMail (by rfl) HX2.out ?_; intro w3 hx3 hfar3 hb3; have HX3 := Aside0.mk hx3; have HB3 := Aside0.mk (HB2.out.trans (hb3.mono (Nat.le_of_eq HG1.out.symm))); clear hx3 hfar3 hb3))
  (try simp only [Act.put, List.setIfInBounds_toArray, List.set_cons_zero, List.set_cons_succ])
  go_wp2
  refine bodyPost_ret (results_ct rfl _ _ gb 29 zeroMail.cells.toArray (0, 0) _ rfl HX3.out Try.underlying29 rfl (by kernel_rfl)) rfl ?_
  exact ⟨rfl, HB3.out⟩
set_option maxHeartbeats 8000000 in
set_option maxRecDepth 100000 in
theorem rTake_yes {B : Nat} {w : World} {r : Nat} {v u : Value} {R : RNet} (h : RAt B w r v u R) (hl : R.prs.length < 1000000) (hm : R.mail.length < 1000000) (which : Int) (hw : (Lit.int .i64 which).wf = true) (L : List Mail) (hL : L = rReady R) (h0 : 0 < L.length) (m : Mail) (hmm : m = L.getD (pickN which L.length) zeroMail) :
    Calls Try.prog 23 #[.pointer (some ⟨r, 0, none⟩), .int .i64 which] w fun e w' => e = .returned (.tuple #[m.val, .bool true]) ∧ ∃ v', RAt B w' r v' u (rWithout R m.id) ∧ Kr B w r v u w' v' := by
  have hu49 := Try.underlying49
  have hu29 := Try.underlying29
  have hz := zero29
  have hp := which_told which hw L.length h0
  have hpl := (pick_told which hw L.length h0).2
  obtain ⟨i, hi⟩ : ∃ i, i = pickN which L.length := ⟨_, rfl⟩
  rw [← hi] at hp hpl hmm
  have HN := Aside0.mk h
  have HL := Aside0.mk hl
  have HM := Aside0.mk hm
  have HP := Aside0.mk hp
  have HLL := Aside0.mk hL
  have HPL := Aside0.mk hpl
  have HMM := Aside0.mk hmm
  have e0 : ((L.length : Int) == 0) = false := by rw [beq_eq_false_iff_ne]; omega
  have p1 : (0 : Int) ≤ (i : Int) := Int.natCast_nonneg _
  have q1 : (i : Int) < (L.length : Int) := by omega
  clear h hl hm h0 hL hp hpl hi hmm
  go_enter Try.func23, Try.ntmps23
  go_wp2_with (first
    | ((with_reducible refine gate_dst (N := 4) rfl ?_); refine box_event ?hg (N := 4) ?hd (cs := #[.int .i64 0, .int .i64 0, .int .i64 0, .string ⟨#[]⟩, .int .i64 0]) (t := 29) ?hr ?_; (case hd => rfl); (case hg => rfl); (case hr => first | (go_simp; done) | (go_simp; rfl)); intro gb hg w1 hbox hb; have HB1 := Aside0.mk hb; have HG1 := Aside0.mk hg; have HX1 := Aside0.mk hbox; have HN1 := Aside0.mk (HN.out.below hb); clear hbox hb hg)
    | (go_at_call 33; (with_reducible refine (rReady_calls HN1.out HL.out HM.out).mono ?_); rintro e w2 ⟨v9, rfl, ho, hb⟩; rw [← HLL.out] at ho; have HN2 := Aside0.mk (HN1.out.below hb); have HB2 := Aside0.mk (HB1.out.trans (hb.mono HB1.out.size)); have HX2 := Aside0.mk ((hb.block gb (blk_lt HX1.out)).trans HX1.out); obtain ⟨b9, c9, e9, _⟩ := R_plain ho (by have h1 := HPL.out; omega); subst e9; have x0 := R_mailat ho i 0 HPL.out (.int .i64 m.id) (by rw [HMM.out]; rfl); rw [Nat.add_zero] at x0; have x1 := R_mailat ho i 1 HPL.out (.int .i64 m.frm) (by rw [HMM.out]; rfl); have x2 := R_mailat ho i 2 HPL.out (.int .i64 m.to_) (by rw [HMM.out]; rfl); have x3 := R_mailat ho i 3 HPL.out (.string m.body) (by rw [HMM.out]; rfl); have x4 := R_mailat ho i 4 HPL.out (.int .i64 m.age) (by rw [HMM.out]; rfl); clear ho hb)
    | (go_at_call 45; (with_reducible refine (heliographref14_Which.calls which _ _ _ HP.out).mono ?_); rintro e w' ⟨rfl, ⟨nd, rfl⟩⟩)
    | ((with_reducible refine gate_dst (N := 7) rfl ?_); refine box_event ?hg (N := 7) ?hd (cs := #[.int .i64 0, .int .i64 0, .int .i64 0, .string ⟨#[]⟩, .int .i64 0]) (t := 29) ?hr ?_; (case hd => rfl); (case hg => rfl); (case hr => first | (go_simp; done) | (go_simp; rfl)); intro gc hg w4 hbox hb; have HBX4 := Aside0.mk (show Below w2.heap.size w2 w4 from (pw_below_drewN (Below.refl _ _) nd).trans hb); have HY4 := Aside0.mk hbox; have HG4 := Aside0.mk (show gc = w2.heap.size from hg); clear hbox hb hg x0 x1 x2 x3 x4)
    | (refine store_box rfl (.tmp 7) (.tmp 20) rfl gc _ (by rfl) rfl m (by rfl) HY4.out ?_; intro w5 hx5 hfar5 hb5; have HY5 := Aside0.mk hx5; have HBX5 := Aside0.mk (HBX4.out.trans (hb5.mono (Nat.le_of_eq HG4.out.symm))); have HN5 := Aside0.mk (HN2.out.below HBX5.out); have HF5 := Aside0.mk (HN2.out.fresh (Nat.le_of_eq HG4.out.symm)); have HFB := Aside0.mk (HN.out.fresh (Nat.le_of_eq HG1.out.symm)); have HX5 := Aside0.mk ((HBX5.out.block gb (blk_lt HX2.out)).trans HX2.out); have HB5 := Aside0.mk (HB2.out.trans (HBX5.out.mono HB2.out.size)); have y0 := blk_cell HY5.out 0; simp only [mail_cells, List.getElem?_toArray, List.getElem?_cons_zero, List.getElem?_cons_succ] at y0; clear hx5 hfar5 hb5)
    | (go_at_call 46; ((with_reducible refine (without_calls HN5.out HM.out m.id).mono ?_); rintro e w6 ⟨rfl, v6, hn6, hk6⟩; have HN6 := Aside0.mk hn6; have HK6 := Aside0.mk hk6; have HX6 := Aside0.mk (hk6.box HX5.out HFB.out.1 HFB.out.2.1 HFB.out.2.2); have HY6 := Aside0.mk (hk6.box HY5.out HF5.out.1 HF5.out.2.1 HF5.out.2.2); have HLT := Aside0.mk (show gb < gc by have h1 := blk_lt HX2.out; have h2 := HG4.out; omega); clear hn6 hk6 y0; have y0 := blk_cell HY6.out 0; have y1 := blk_cell HY6.out 1; have y2 := blk_cell HY6.out 2; have y3 := blk_cell HY6.out 3; have y4 := blk_cell HY6.out 4; simp only [mail_cells, List.getElem?_toArray, List.getElem?_cons_zero, List.getElem?_cons_succ] at y0 y1 y2 y3 y4))
    | (refine store_box rfl (.tmp 4) (.tmp 25) rfl gb _ (by rfl) rfl m (by rfl) HX6.out ?_; intro w7 hx7 hfar7 hb7; have HX7 := Aside0.mk hx7; have HF7 := Aside0.mk hfar7; have HB7 := Aside0.mk hb7; clear hx7 hfar7 hb7))
  (try simp only [Act.put, List.setIfInBounds_toArray, List.set_cons_zero, List.set_cons_succ])
  go_wp2
  refine bodyPost_ret (results_ct rfl _ _ gb 29 m.cells.toArray (0, 0) _ rfl HX7.out Try.underlying29 rfl (by kernel_rfl)) rfl ?_
  have hk := (Kr.of_below (r := r) (v := v) (u := u) HN.out.base HB5.out).trans HK6.out
  have hv6 : ∀ b, v6.ownBlock = some b → b ≠ gb := fun b hb e => by
    rcases HK6.out.own b hb with e2 | e2
    · rw [e] at e2
      exact HFB.out.2.1 e2.symm
    · have h1 := blk_lt HX5.out; omega
  refine ⟨rfl, v6, HN6.out.keep (HF7.out r (Ne.symm HFB.out.1)) (fun b hb => HF7.out b (hv6 b hb)) (fun b hb => HF7.out b (fun e => HFB.out.2.2 (by rw [← e]; exact hb.symm))), ⟨hk.below.trans (HB7.out.mono (by have h1 := HN.out.base; have h2 := HG1.out; omega)), fun k h1 h2 h3 h4 => (HF7.out k (by have h5 := HG1.out; omega)).trans (hk.keep k h1 h2 h3 h4), hk.own⟩⟩
theorem rTake_calls {B : Nat} {w : World} {r : Nat} {v u : Value} {R : RNet} (h : RAt B w r v u R) (hl : R.prs.length < 1000000) (hm : R.mail.length < 1000000) (which : Int) (hw : (Lit.int .i64 which).wf = true) :
    Calls Try.prog 23 #[.pointer (some ⟨r, 0, none⟩), .int .i64 which] w fun e w' => e = .returned (.tuple #[(rTake R which).1.val, .bool (rTake R which).2.1]) ∧ ∃ v', RAt B w' r v' u (rTake R which).2.2 ∧ Kr B w r v u w' v' := by
  by_cases hc : (rReady R).length = 0
  · refine (rTake_no h hl hm which hc).mono fun e w' hh => ?_
    rw [rTake, if_pos hc]
    exact ⟨hh.1, v, h.below hh.2, Kr.of_below h.base hh.2⟩
  · refine (rTake_yes h hl hm which hw _ rfl (by omega) _ rfl).mono fun e w' hh => ?_
    rw [rTake, if_neg hc]
    exact hh
def rDrop (R : RNet) (which : Int) : Bool × RNet := if R.mail.length = 0 then (false, R) else (true, rWithout R (R.mail.getD (pickN which R.mail.length) zeroMail).id)
set_option maxHeartbeats 8000000 in
set_option maxRecDepth 100000 in
theorem rDrop_calls {B : Nat} {w : World} {r : Nat} {v u : Value} {R : RNet} (h : RAt B w r v u R) (hm : R.mail.length < 1000000) (which : Int) (hw : (Lit.int .i64 which).wf = true) :
    Calls Try.prog 25 #[.pointer (some ⟨r, 0, none⟩), .int .i64 which] w fun e w' => e = .returned (.bool (rDrop R which).1) ∧ ∃ v', RAt B w' r v' u (rDrop R which).2 ∧ Kr B w r v u w' v' := by
  have hu49 := Try.underlying49
  have hu29 := Try.underlying29
  obtain ⟨A, c, e0⟩ := Kd.R_slice h.own
  subst e0
  have hc0 := h.cell0
  by_cases h0 : R.mail.length = 0
  · have e0 : ((R.mail.length : Int) == 0) = true := by rw [h0]; rfl
    rw [rDrop, if_pos h0]
    have HN := Aside0.mk h
    clear h h0
    go_enter Try.func25, Try.ntmps25
    go_wp2
    go_ret
    exact ⟨rfl, _, HN.out, Kr.refl _ _ _ _ _⟩
  · have e0 : ((R.mail.length : Int) == 0) = false := by rw [beq_eq_false_iff_ne]; omega
    have hp := which_told which hw R.mail.length (by omega)
    have hpl := (pick_told which hw R.mail.length (by omega)).2
    rw [rDrop, if_neg h0]
    obtain ⟨i, hi⟩ : ∃ i, i = pickN which R.mail.length := ⟨_, rfl⟩
    rw [← hi] at hp hpl ⊢
    obtain ⟨m, hmm⟩ : ∃ m, m = R.mail.getD i zeroMail := ⟨_, rfl⟩
    rw [← hmm]
    obtain ⟨bb, cc, e1, _⟩ := R_plain h.own (by omega)
    injection e1 with e11 e12 e13
    subst e11
    have x0 := R_mailat h.own i 0 hpl (.int .i64 m.id) (by rw [hmm]; rfl)
    rw [Nat.add_zero] at x0
    have p1 : (0 : Int) ≤ (i : Int) := Int.natCast_nonneg _
    have q1 : (i : Int) < (R.mail.length : Int) := by omega
    have HN := Aside0.mk h
    have HM := Aside0.mk hm
    have HP := Aside0.mk hp
    clear h hm h0 hp hpl hi hmm e12 e13
    go_enter Try.func25, Try.ntmps25
    go_wp2
    go_region_with (first
      | (go_at_call 45; (with_reducible refine (heliographref14_Which.calls which _ _ _ HP.out).mono ?_); rintro e w' ⟨rfl, ⟨nd, rfl⟩⟩)
      | (go_at_call 46; (refine (without_calls (HN.out.drewN (1 + nd)) HM.out m.id).mono ?_); rintro e w6 ⟨rfl, v6, hn6, hk6⟩; have HN6 := Aside0.mk hn6; have HK6 := Aside0.mk ((Kr.of_below (r := r) HN.out.base (pw_below_drewN (Below.refl _ _) (1 + nd))).trans hk6); clear hn6 hk6))
    all_goals
      go_wp2
      go_ret
      exact ⟨rfl, v6, HN6.out, HK6.out⟩
end Go.Proofs.Ytnggcegfieeonaa.Nx
/- What is proved: what the document's Part and Join come to. No condition but what each theorem says. -/
namespace Go.Proofs.Ytnggcegfieeonaa.Nx
open Go.RowKit Go.Proofs.YtnggcegfieeonaaW.PrintWords Go.Proofs.YtnggcegfieeonaaW.PrintLast Go.Proofs.YtnggcegfieeonaaW.PrintMore
open Go.Proofs.Ytnggcegfieeonaa.PNetPlays
set_option linter.unusedVariables false
set_option linter.unusedSimpArgs false
theorem info36 : (Try.prog.info? 36).map (fun i => (i.zero, i.size, i.bytes)) = some (some (.agg #[.int .i64 0, .int .i64 0]), 2, 16) := by kernel_rfl
theorem rend_told (a : Int) : heliographref14_end.f a = some (decide (0 ≤ a ∧ a < 64)) := end_told a
theorem pr_take (l : List (Int × Int)) (q : Int × Int → Bool) (i : Nat) (hi : i < l.length) : (l.take (i + 1)).filter q = (l.take i).filter q ++ if q (l.getD i (0, 0)) = true then [l.getD i (0, 0)] else [] := by
  rw [List.take_add_one, List.getElem?_eq_getElem hi, List.filter_append, List.getD_eq_getElem?_getD, List.getElem?_eq_getElem hi]
  congr 1
  show List.filter q [l[i]] = _
  rw [List.filter_cons]
  rfl
theorem pr_small (l : List (Int × Int)) (q : Int × Int → Bool) (i : Nat) : ((l.take i).filter q).length ≤ i := by
  have h1 := List.length_filter_le q (l.take i)
  rw [List.length_take] at h1
  omega
def rJoin (R : RNet) (a b : Int) : RNet := { R with prs := R.prs.filter fun p => !(p == pairF a b) }
set_option maxHeartbeats 8000000 in
set_option maxRecDepth 100000 in
theorem rJoin_calls {B : Nat} {w : World} {r : Nat} {v u : Value} {R : RNet} (h : RAt B w r v u R) (hl : R.prs.length < 1000000) (a b : Int) :
    Calls Try.prog 28 #[.pointer (some ⟨r, 0, none⟩), .int .i64 a, .int .i64 b] w fun e w' => e = .returned (.bool (rIs R a b)) ∧ ∃ u', RAt B w' r v u' (rJoin R a b) ∧ Kr B w r v u w' v := by
  have hu49 := Try.underlying49
  have hu36 := Try.underlying36
  obtain ⟨A, c, e2⟩ := Kd.R_slice h.pown
  subst e2
  have HN := Aside0.mk h
  have HL := Aside0.mk hl
  obtain ⟨n, hn⟩ : ∃ n, n = R.prs.length := ⟨_, rfl⟩
  rw [← hn] at HN ⊢
  have HNN := Aside0.mk hn
  obtain ⟨q0, q1, hq⟩ : ∃ q0 q1, pairF a b = (q0, q1) := ⟨_, _, rfl⟩
  have HQ := Aside0.mk hq
  obtain ⟨s, hs⟩ : ∃ s, s = rIs R a b := ⟨_, rfl⟩
  rw [← hs]
  have HS := Aside0.mk hs
  clear h hl hn hq hs
  go_enter Try.func28, Try.ntmps28
  go_wp2_with (first
    | (go_at_call 35; ((with_reducible refine (is_calls HN.out HL.out a b).mono ?_); rintro e w1 ⟨he, hb⟩; rw [← HS.out] at he; subst he; have HB1 := Aside0.mk hb; clear hb)))
  go_loopg [8, 9] n (fun kq v8 v9 wl => ∃ i : Nat, v9 = .int .i64 (i : Int) ∧ Aside0 (kq + i = n) ∧ Aside0 (Kd.R kPr 36 wl w.heap.size (fun _ => True) v8 ((R.prs.take i).filter fun p => !(p == pairF a b))) ∧ Aside0 (Below w.heap.size w wl))
  case atStart => exact ⟨0, rfl, ⟨rfl⟩, ⟨Kd.R_nil _ _ _ _ _⟩, HB1⟩
  case round =>
    obtain ⟨i, rfl, HI, HO, HB⟩ := hrel
    have HN2 := Aside0.mk (HN.out.below HB.out)
    have hc2 := HN2.out.cell2
    by_cases hlt : i < n
    · have f1 : decide ((i : Int) < (n : Int)) = true := decide_eq_true (by omega)
      have f2 : decide (i < n) = true := decide_eq_true hlt
      have f3 : (0 : Int) ≤ (i : Int) := Int.natCast_nonneg _
      have f4 : (i : Int) < (n : Int) := by omega
      obtain ⟨bb, cc, e2, _⟩ := R_plain HN2.out.pown (by have h1 := HNN.out; omega)
      injection e2 with e21 e22 e23
      subst e21
      have hin : i < R.prs.length := by have h1 := HNN.out; omega
      obtain ⟨x0, x1⟩ := R_prat HN2.out.pown i hin
      obtain ⟨p, hp⟩ : ∃ p, p = R.prs.getD i (0, 0) := ⟨_, rfl⟩
      rw [← hp] at x0 x1
      have HT := Aside0.mk (pr_take R.prs (fun p => !(p == pairF a b)) i hin)
      rw [← hp] at HT
      have heq := neq36 (a := p.1) (b := p.2) (c := q0) (d := q1)
      have HLT := Aside0.mk hlt
      have HE := Aside0.mk (show wrap64 ((i : Int) + 1) = ((i + 1 : Nat) : Int) by have h1 := HNN.out; have h2 := HL.out; rw [wrap64]; omega)
      have HPE := Aside0.mk (show (p == pairF a b) = (p.1 == q0 && p.2 == q1) by rw [HQ.out]; rfl)
      clear hp hlt e22 e23 hin
      go_upto_region 6 with (fail)
      go_cut [33] (fun v33 wc => v33 = .bool (!(p.1 == q0 && p.2 == q1)) ∧ Aside0 (Below wr.heap.size wr wc))
      case first =>
        go_region_with (first
          | (go_at_call 48; ((with_reducible refine (pair_calls _ a b).mono ?_); rintro e w2 ⟨he, hb⟩; rw [HQ.out] at he; dsimp only at he; subst he; have HB2 := Aside0.mk hb; have y0 := pw_cell_below hb (show World.cell? _ _ = _ from x0); have y1 := pw_cell_below hb (show World.cell? _ _ = _ from x1); have yc := pw_cell_below hb (show World.cell? _ _ = _ from hc2); clear hb)))
        all_goals
          go_wp2
          go_meet
          case rel => exact ⟨by simp only [Bool.not_and], ⟨(Below.drew (Below.refl _ _)).trans HB2.out⟩⟩
      case rest =>
        obtain ⟨rfl, HBW⟩ := hcut
        have HB2 := Aside0.mk (HB.out.trans (HBW.out.mono HB.out.size))
        have HO2 := Aside0.mk (Kd.R_below HO.out HBW.out)
        have y0 := pw_cell_below HBW.out x0
        have y1 := pw_cell_below HBW.out x1
        have yc := pw_cell_below HBW.out hc2
        clear x0 x1 hc2 heq
        cases hm : (p.1 == q0 && p.2 == q1) with
        | true =>
          have HF := HT.out
          rw [HPE.out, hm, if_neg (by simp), List.append_nil] at HF
          have HF2 := Aside0.mk HF
          clear HF hm
          go_wp2
          go_roundg (gk - 1)
          case measure => have h1 := HI.out; have h2 := HLT.out; omega
          case rel => exact ⟨i + 1, by have h := HE.out; rw [h], ⟨by have h1 := HI.out; have h2 := HLT.out; omega⟩, ⟨by rw [HF2.out]; exact HO2.out⟩, HB2⟩
        | false =>
          have HF := HT.out
          rw [HPE.out, hm, if_pos (by simp)] at HF
          have HF2 := Aside0.mk HF
          clear HF hm
          go_wp2_with (first
            | ((with_reducible refine gate_builtin (b := .append) (xs := #[.tmp 34, .tmp 42]) rfl ?_); at_builtin; refine Kd.R_append kPr (w0 := w) w.heap.size rfl (.tmp 34) (.tmp 42) 47 36 _ 16 rfl Try.underlying47 info36 rfl (by decide) (by omega) _ ((R.prs.take i).filter fun p => !(p == pairF a b)) p (prc p) (fun _ => True) (fun _ => False) rfl rfl ?aP (fun _ hk => hk.elim) ?aF ?aO ?aB ?aS ?aL ?_; (case aP => exact rfl); (case aB => exact HB2.out); (case aF => exact (fun _ _ => trivial)); (case aO => exact HO2.out); (case aS => exact HB2.out.size); (case aL => have h0 := pr_small R.prs (fun p => !(p == pairF a b)) i; have h1 := HL.out; have h2 := HNN.out; have h3 := HLT.out; omega); intro v8 w8 ho hb hg hat; have HO5 := Aside0.mk ho; have HB5 := Aside0.mk hb; clear ho hb hg hat))
          go_roundg (gk - 1)
          case measure => have h1 := HI.out; have h2 := HLT.out; omega
          case rel => exact ⟨i + 1, by have h := HE.out; rw [h], ⟨by have h1 := HI.out; have h2 := HLT.out; omega⟩, ⟨by rw [HF2.out]; exact HO5.out⟩, HB5⟩
    · have f1 : decide ((i : Int) < (n : Int)) = false := decide_eq_false (by omega)
      have f2 : decide (i < n) = false := decide_eq_false hlt
      have HR := Aside0.mk (show (R.prs.take i).filter (fun p => !(p == pairF a b)) = R.prs.filter (fun p => !(p == pairF a b)) by rw [List.take_of_length_le (by have h1 := HNN.out; omega)])
      have hf2 := HN2.out.frozen 2
      have hO2 := HO.out
      rw [HR.out] at hO2
      obtain ⟨A4, c4, e4⟩ := Kd.R_slice hO2
      subst e4
      have HO2 := Aside0.mk hO2
      clear hlt hO2
      go_wp2
      go_ret
      refine ⟨rfl, _, HN2.out.set2 _ _ (Kd.R_lower HO2.out HN.out.base), ?_⟩
      exact ⟨(HB.out.mono HN.out.base).setCell HN.out.ge _, fun k hk h1 h2 h3 => (Below.heap_setCell wr ⟨r, 2, none⟩ _ k h1).trans (HB.out.block k hk), fun b e => .inl e⟩
def rPart (R : RNet) (a b : Int) : Bool × RNet := if two a b = true ∧ rIs R a b = false then (true, { R with prs := R.prs ++ [pairF a b] }) else (false, R)
set_option maxHeartbeats 8000000 in
set_option maxRecDepth 100000 in
theorem rPart_no {B : Nat} {w : World} {r : Nat} {v u : Value} {R : RNet} (h : RAt B w r v u R) (hl : R.prs.length < 1000000) (a b : Int) (ea eb s : Bool) (hea : ea = decide (0 ≤ a ∧ a < 64)) (heb : eb = decide (0 ≤ b ∧ b < 64)) (hs : s = rIs R a b)
    (hh : ea = false ∨ (ea = true ∧ eb = false) ∨ (ea = true ∧ eb = true ∧ (a == b) = true) ∨ (ea = true ∧ eb = true ∧ (a == b) = false ∧ s = true)) :
    Calls Try.prog 27 #[.pointer (some ⟨r, 0, none⟩), .int .i64 a, .int .i64 b] w fun e w' => e = .returned (.bool false) ∧ Below w.heap.size w w' := by
  have HN := Aside0.mk h
  have HL := Aside0.mk hl
  have HA := Aside0.mk (show heliographref14_end.f a = some ea by rw [hea, rend_told])
  have HBB := Aside0.mk (show heliographref14_end.f b = some eb by rw [heb, rend_told])
  have HS := Aside0.mk hs
  clear h hl hea heb hs
  rcases hh with rfl | ⟨rfl, rfl⟩ | ⟨rfl, rfl, e1⟩ | ⟨rfl, rfl, e1, rfl⟩
  all_goals
    go_enter Try.func27, Try.ntmps27
    go_wp2_with (first
      | (go_at_call 47; (with_reducible refine (heliographref14_end.calls a _ _ HA.out).mono ?_); rintro e w' ⟨rfl, ⟨nd, rfl⟩⟩)
      | (go_at_call 47; (with_reducible refine (heliographref14_end.calls b _ _ HBB.out).mono ?_); rintro e w' ⟨rfl, ⟨nd2, rfl⟩⟩)
      | (go_at_call 35; ((with_reducible refine (is_calls (HN.out.drewN _) HL.out a b).mono ?_); rintro e w1 ⟨he, hb⟩; rw [← HS.out] at he; subst he; have HB1 := Aside0.mk ((pw_below_drewN (Below.refl w.heap.size w) _).trans hb); clear hb)))
    go_ret
    exact ⟨rfl, HB1.out⟩
theorem RAt.grown_pr {B : Nat} {w w3 : World} {r : Nat} {v u : Value} {R : RNet} (h : RAt B w r v u R) (hg : w.grownBy w3 u.ownBlock) (u' : Value) (l : List (Int × Int)) (hw : w3.ownsRow B 36 2 u' l.length (pvals l)) : RAt B (w3.setCell ⟨r, 2, none⟩ u') r v u' { R with prs := l } := by
  have hr : w3.heap[r]? = some (.cells #[v, .int .i64 R.last, u] 49 (0, 0)) := (hg.block r h.lt h.une).trans h.row
  have ho := Kd.R_over' h.own (Kd.R_typed h.pown) (by decide) hg
  have hp := pr_of_own hw rfl
  exact ⟨h.ge, blk_set hr 2 _, Kd.R_mono (Kd.R_far (Kd.R_tight rfl ho) (fun k hk e => Kd.R_ne ho hr (by decide) (by rw [← hk, show k = r from e])) _) fun _ _ => trivial, Kd.R_mono (Kd.R_far (Kd.R_tight rfl hp) (fun k hk e => Kd.R_ne hp hr (by decide) (by rw [← hk, show k = r from e])) _) fun _ _ => trivial⟩
theorem RAt.grown_mail {B : Nat} {w w3 : World} {r : Nat} {v u : Value} {R : RNet} (h : RAt B w r v u R) (hg : w.grownBy w3 v.ownBlock) (v' : Value) (l : List Mail) (hw : w3.ownsRow B 29 5 v' l.length (vals l)) : RAt B (w3.setCell ⟨r, 0, none⟩ v') r v' u { R with mail := l } := by
  have hr : w3.heap[r]? = some (.cells #[v, .int .i64 R.last, u] 49 (0, 0)) := (hg.block r h.lt h.vne).trans h.row
  have ho := Kd.R_over' h.pown (Kd.R_typed h.own) (by decide) hg
  have hp := mail_of_own hw rfl
  exact ⟨h.ge, blk_set hr 0 _, Kd.R_mono (Kd.R_far (Kd.R_tight rfl hp) (fun k hk e => Kd.R_ne hp hr (by decide) (by rw [← hk, show k = r from e])) _) fun _ _ => trivial, Kd.R_mono (Kd.R_far (Kd.R_tight rfl ho) (fun k hk e => Kd.R_ne ho hr (by decide) (by rw [← hk, show k = r from e])) _) fun _ _ => trivial⟩
theorem pvals_app (l m : List (Int × Int)) : pvals (l ++ m) = pvals l ++ pvals m := by unfold pvals; simp
set_option maxHeartbeats 8000000 in
set_option maxRecDepth 100000 in
theorem rPart_yes {B : Nat} {w : World} {r : Nat} {v u : Value} {R : RNet} (h : RAt B w r v u R) (hl : R.prs.length < 1000000) (a b : Int) (ht : two a b = true) (hs : rIs R a b = false) :
    Calls Try.prog 27 #[.pointer (some ⟨r, 0, none⟩), .int .i64 a, .int .i64 b] w fun e w' => e = .returned (.bool true) ∧ ∃ u', RAt B w' r v u' { R with prs := R.prs ++ [pairF a b] } ∧ Kr B w r v u w' v := by
  have hu49 := Try.underlying49
  obtain ⟨ma, mb, rfl, rfl, h1, h2, h3⟩ := two_inv ht
  have HN := Aside0.mk h
  have HL := Aside0.mk hl
  have HA := Aside0.mk (show heliographref14_end.f (ma : Int) = some true by rw [rend_told, decide_eq_true ⟨by omega, by omega⟩])
  have HBB := Aside0.mk (show heliographref14_end.f (mb : Int) = some true by rw [rend_told, decide_eq_true ⟨by omega, by omega⟩])
  have HS := Aside0.mk hs
  have e1 : ((ma : Int) == (mb : Int)) = false := by rw [beq_eq_false_iff_ne]; omega
  obtain ⟨q0, q1, hq⟩ : ∃ q0 q1, pairF (ma : Int) (mb : Int) = (q0, q1) := ⟨_, _, rfl⟩
  have HQ := Aside0.mk hq
  obtain ⟨i0, hi0, hz0, hz1, hz2⟩ := info_parts info36
  have hl2 := hl
  obtain ⟨A, c, e2⟩ := Kd.R_slice h.pown
  subst e2
  obtain ⟨n, hn⟩ : ∃ n, n = R.prs.length := ⟨_, rfl⟩
  rw [← hn] at HN hl2 ⊢
  have HNN := Aside0.mk hn
  clear h hl ht hs h1 h2 h3 hq hn
  go_enter Try.func27, Try.ntmps27
  go_upto_region 6 with (first
    | (go_at_call 47; (with_reducible refine (heliographref14_end.calls (ma : Int) _ _ HA.out).mono ?_); rintro e w' ⟨rfl, ⟨nd, rfl⟩⟩)
    | (go_at_call 47; (with_reducible refine (heliographref14_end.calls (mb : Int) _ _ HBB.out).mono ?_); rintro e w' ⟨rfl, ⟨nd2, rfl⟩⟩)
    | (go_at_call 35; ((with_reducible refine (is_calls (HN.out.drewN _) HL.out (ma : Int) (mb : Int)).mono ?_); rintro e w1 ⟨he, hb⟩; rw [HS.out] at he; subst he; have HB1 := Aside0.mk ((pw_below_drewN (Below.refl w.heap.size w) _).trans hb); have HN1 := Aside0.mk (HN.out.below HB1.out); clear hb)))
  have hc2 := HN1.out.cell2
  have hBB : B ≤ w1.heap.size := HN1.out.base
  have hcf2 := HN1.out.frozen 2
  go_region_law ((first
    | (refine step_append_lies _ (by rfl) _ _ _ (by rfl) B 36 i0 _ 2 16 Try.underlying47 hi0 hz0 hz1 hz2 rfl (by omega) (.slice A n c) n (pvals R.prs) (by rfl) (HOP.out.alloc _) ⟨w2.heap.size, 0, none⟩ 1 1 [.int .i64 q0, .int .i64 q1] (by rfl) (by rfl) (World.news_of_block (cs := #[.int .i64 q0, .int .i64 q1]) (t := 36) (fr := (0, 0)) (heap_alloc_new w2 _)) (by simp [Value.oneCell']) (by omega) (by unfold maxLen; omega) (by omega) (by simp; omega) (w2.heap.size + 1) (by simp) ?_; intro gg cap w3 hown1 hgrow hat hlt; have hcz := (hgrow.cell_far ⟨r, 2, none⟩ (by simp; have := HN2.out.lt; omega) HUNE.out).trans (HN2.out.alloc _).cell2; have hfz := (hgrow.frozen_far ⟨r, 2, none⟩ (by simp; have := HN2.out.lt; omega) HUNE.out).trans ((HN2.out.alloc _).frozen 2); have HG := Aside0.mk hgrow; have HW := Aside0.mk hown1; have HAT := Aside0.mk hat; clear hgrow hown1 hat)
    | (go_simp; go_at_call 48; ((refine (pair_calls _ (ma : Int) (mb : Int)).mono ?_); rintro e w2 ⟨he, hb⟩; rw [HQ.out] at he; dsimp only at he; subst he; have HN2 := Aside0.mk (HN1.out.drew.below hb); have HUNE := Aside0.mk (HN2.out.une); have HOP := Aside0.mk (show w2.ownsRow B 36 2 (.slice A n c) n (pvals R.prs) by have h1 := own_of_pr HN2.out.pown; rw [← HNN.out] at h1; exact h1); have HB2 := Aside0.mk (HB1.out.trans (((Below.drew (Below.refl w1.heap.size w1)).trans hb).mono HB1.out.size)); have hBB2 := HN2.out.base; have ya := (HN2.out.alloc (.cells #[.int .i64 q0, .int .i64 q1] 36 (0, 0))).cell2; have yc := HN2.out.cell2; have yf := HN2.out.frozen 2; have n0 := World.new_ne w2 ⟨r, 2, none⟩ yc; clear hb; dsimp only))))
  all_goals
    go_wp2
    go_ret
    have hW : w3.ownsRow B 36 2 (.slice (some ⟨gg, 0, none⟩) (n + 1) cap) (R.prs ++ [pairF (ma : Int) (mb : Int)]).length (pvals (R.prs ++ [pairF (ma : Int) (mb : Int)])) := by
      rw [List.length_append, pvals_app, HQ.out, ← HNN.out]
      exact HW.out
    refine ⟨rfl, ⟨_, (HN2.out.alloc _).grown_pr HG.out _ _ hW⟩, ⟨?_, fun k hk h1 h2 h3 => ?_, fun b hb => .inl hb⟩⟩
    · exact (((HB2.out.mono HN.out.base).alloc HN2.out.base _).grown HG.out (by simp; have := HN2.out.base; omega) (fun k hk => Kd.R_base HN2.out.pown k hk)).setCell HN.out.ge _
    · refine (Below.heap_setCell w3 ⟨r, 2, none⟩ _ k h1).trans ((HG.out.block k (by simp; have := HB2.out.size; omega) h3).trans ((Below.heap_alloc w2 _ k (by have := HB2.out.size; omega)).trans (HB2.out.block k hk)))
theorem rPart_calls {B : Nat} {w : World} {r : Nat} {v u : Value} {R : RNet} (h : RAt B w r v u R) (hl : R.prs.length < 1000000) (a b : Int) :
    Calls Try.prog 27 #[.pointer (some ⟨r, 0, none⟩), .int .i64 a, .int .i64 b] w fun e w' => e = .returned (.bool (rPart R a b).1) ∧ ∃ u', RAt B w' r v u' (rPart R a b).2 ∧ Kr B w r v u w' v := by
  by_cases hc : two a b = true ∧ rIs R a b = false
  · refine (rPart_yes h hl a b hc.1 hc.2).mono fun e w' hh => ?_
    rw [rPart, if_pos hc]
    exact hh
  · refine (rPart_no h hl a b _ _ _ rfl rfl rfl ?_).mono fun e w' hh => ?_
    · have htw : two a b = (decide (0 ≤ a ∧ a < 64) && (decide (0 ≤ b ∧ b < 64) && (a != b))) := rfl
      rw [htw] at hc
      cases h1 : decide (0 ≤ a ∧ a < 64)
      · exact .inl rfl
      · cases h2 : decide (0 ≤ b ∧ b < 64)
        · exact .inr (.inl ⟨rfl, rfl⟩)
        · cases h3 : (a == b)
          · refine .inr (.inr (.inr ⟨rfl, rfl, rfl, ?_⟩))
            cases h4 : rIs R a b
            · exact absurd ⟨by rw [h1, h2, bne, h3]; rfl, h4⟩ hc
            · rfl
          · exact .inr (.inr (.inl ⟨rfl, rfl, rfl⟩))
    · rw [rPart, if_neg hc]
      exact ⟨hh.1, u, h.below hh.2, Kr.of_below h.base hh.2⟩
end Go.Proofs.Ytnggcegfieeonaa.Nx
