/- What is proved: what the document's Send and Double come to. No condition but what each theorem says. -/
import Derived.Test.YtnggcegfieeonaaPmb
namespace Go.Proofs.Ytnggcegfieeonaa.Nx
open Go.RowKit Go.Proofs.YtnggcegfieeonaaW.PrintWords Go.Proofs.YtnggcegfieeonaaW.PrintLast Go.Proofs.YtnggcegfieeonaaW.PrintMore
open Go.Proofs.Ytnggcegfieeonaa.PNetPlays
set_option linter.unusedVariables false
set_option linter.unusedSimpArgs false
theorem Kr.grown_mail {B : Nat} {w w1 w3 : World} {r : Nat} {v u v1 : Value} {R : RNet} (h : Kr B w r v u w1 v1) (hR : RAt B w1 r v1 u R) (o : Obj) (hg : ((w1.alloc o).drew).grownBy w3 v1.ownBlock) (gg m cap : Nat) (hat : v1.ownBlock = some gg ∨ gg = w1.heap.size + 1) : Kr B w r v u (w3.setCell ⟨r, 0, none⟩ (.slice (some ⟨gg, 0, none⟩) m cap)) (.slice (some ⟨gg, 0, none⟩) m cap) := by
  have hs := h.below.size
  refine ⟨(((h.below.alloc hR.base _).drew).grown hg (by simp; have := hR.base; omega) (fun k hk => Kd.R_base hR.own k hk)).setCell hR.ge _, fun i hi h1 h2 h3 => ?_, fun b hb => ?_⟩
  · refine (Below.heap_setCell w3 ⟨r, 0, none⟩ _ i h1).trans ((hg.block i (by simp; omega) (fun e => ?_)).trans ((Below.heap_alloc w1 _ i (by omega)).trans (h.keep i hi h1 h2 h3)))
    rcases h.own i e.symm with e2 | e2
    · exact h2 e2.symm
    · omega
  · have e0 : some gg = some b := hb
    injection e0 with e0
    subst e0
    rcases hat with e | e
    · exact h.own gg e
    · exact .inr (by omega)
def rSend (R : RNet) (a b : Int) (s : ByteArray) : Int × Bool × RNet :=
  if two a b = true ∧ s.size ≤ 80000 ∧ R.mail.length < 2000 then (wrap64 (R.last + 1), true, { R with mail := R.mail ++ [⟨wrap64 (R.last + 1), a, b, s, 0⟩], last := wrap64 (R.last + 1) }) else (0, false, R)
set_option maxHeartbeats 8000000 in
set_option maxRecDepth 100000 in
theorem rSend_no {B : Nat} {w : World} {r : Nat} {v u : Value} {R : RNet} (h : RAt B w r v u R) (a b : Int) (s : ByteArray) (ea eb : Bool) (hea : ea = decide (0 ≤ a ∧ a < 64)) (heb : eb = decide (0 ≤ b ∧ b < 64))
    (hh : ea = false ∨ (ea = true ∧ eb = false) ∨ (ea = true ∧ eb = true ∧ (a == b) = true) ∨ (ea = true ∧ eb = true ∧ (a == b) = false ∧ decide ((s.size : Int) > 80000) = true) ∨ (ea = true ∧ eb = true ∧ (a == b) = false ∧ decide ((s.size : Int) > 80000) = false ∧ decide ((R.mail.length : Int) ≥ 2000) = true)) :
    Calls Try.prog 32 #[.pointer (some ⟨r, 0, none⟩), .int .i64 a, .int .i64 b, .string s] w fun e w' => e = .returned (.tuple #[.int .i64 0, .bool false]) ∧ Drawn0 w w' := by
  have hu49 := Try.underlying49
  obtain ⟨A, c, e0⟩ := Kd.R_slice h.own
  subst e0
  have hc0 := h.cell0
  have HN := Aside0.mk h
  have HA := Aside0.mk (show heliographref14_end.f a = some ea by rw [hea, rend_told])
  have HBB := Aside0.mk (show heliographref14_end.f b = some eb by rw [heb, rend_told])
  clear h hea heb
  rcases hh with rfl | ⟨rfl, rfl⟩ | ⟨rfl, rfl, e1⟩ | ⟨rfl, rfl, e1, e2⟩ | ⟨rfl, rfl, e1, e2, e3⟩
  all_goals
    go_enter Try.func32, Try.ntmps32
    go_wp2_with (first
      | (go_at_call 47; (with_reducible refine (heliographref14_end.calls a _ _ HA.out).mono ?_); rintro e w' ⟨rfl, ⟨nd, rfl⟩⟩)
      | (go_at_call 47; (with_reducible refine (heliographref14_end.calls b _ _ HBB.out).mono ?_); rintro e w' ⟨rfl, ⟨nd2, rfl⟩⟩))
    go_ret2
    exact ⟨rfl, _, rfl⟩
set_option maxHeartbeats 8000000 in
set_option maxRecDepth 100000 in
theorem rSend_yes {B : Nat} {w : World} {r : Nat} {v u : Value} {R : RNet} (h : RAt B w r v u R) (a b : Int) (s : ByteArray) (ht : two a b = true) (h2 : s.size ≤ 80000) (h3 : R.mail.length < 2000) :
    Calls Try.prog 32 #[.pointer (some ⟨r, 0, none⟩), .int .i64 a, .int .i64 b, .string s] w fun e w' => e = .returned (.tuple #[.int .i64 (wrap64 (R.last + 1)), .bool true]) ∧ ∃ v', RAt B w' r v' u { R with mail := R.mail ++ [⟨wrap64 (R.last + 1), a, b, s, 0⟩], last := wrap64 (R.last + 1) } ∧ Kr B w r v u w' v' := by
  have hu49 := Try.underlying49
  have hu29 := Try.underlying29
  obtain ⟨ma, mb, rfl, rfl, h4, h5, h6⟩ := two_inv ht
  have hc1 := h.cell1
  have hf1 := h.frozen 1
  have HA := Aside0.mk (show heliographref14_end.f (ma : Int) = some true by rw [rend_told, decide_eq_true ⟨by omega, by omega⟩])
  have HBB := Aside0.mk (show heliographref14_end.f (mb : Int) = some true by rw [rend_told, decide_eq_true ⟨by omega, by omega⟩])
  have e1 : ((ma : Int) == (mb : Int)) = false := by rw [beq_eq_false_iff_ne]; omega
  obtain ⟨i0, hi0, hz0, hz1, hz2⟩ := info_parts info29
  obtain ⟨A, c, e0⟩ := Kd.R_slice h.own
  subst e0
  have hc0 := h.cell0
  obtain ⟨n, hn⟩ : ∃ n, n = R.mail.length := ⟨_, rfl⟩
  rw [← hn] at h3 h hc0 ⊢
  have HNN := Aside0.mk hn
  have HN := Aside0.mk h
  have e2 : decide ((s.size : Int) > 80000) = false := decide_eq_false (by omega)
  have e3 : decide ((n : Int) ≥ 2000) = false := decide_eq_false (by omega)
  obtain ⟨d, hd⟩ : ∃ d, d = wrap64 (R.last + 1) := ⟨_, rfl⟩
  rw [← hd]
  have HD := Aside0.mk hd
  clear h ht h2 h4 h5 h6 hn hd
  go_enter Try.func32, Try.ntmps32
  go_upto_region 6 with (first
    | (go_at_call 47; (with_reducible refine (heliographref14_end.calls (ma : Int) _ _ HA.out).mono ?_); rintro e w' ⟨rfl, ⟨nd, rfl⟩⟩)
    | (go_at_call 47; (with_reducible refine (heliographref14_end.calls (mb : Int) _ _ HBB.out).mono ?_); rintro e w' ⟨rfl, ⟨nd2, rfl⟩⟩))
  have hset := (HN.out.drewN (nd + nd2)).set1 (wrap64 (R.last + 1))
  have hkr := (Kr.of_below (r := r) (v := .slice A n c) (u := u) HN.out.base (pw_below_drewN (Below.refl _ _) (nd + nd2))).set HN.out.ge 1 (.int .i64 (wrap64 (R.last + 1)))
  rw [← HD.out] at hset hkr ⊢
  generalize (w.drewN (nd + nd2)).setCell ⟨r, 1, none⟩ (.int .i64 d) = w1 at hset hkr ⊢
  have HN1 := Aside0.mk hset
  have HK1 := Aside0.mk hkr
  clear hc0 hc1 hf1 hset hkr
  have hc0 := HN1.out.cell0
  have hc1 := HN1.out.cell1
  have hf0 := HN1.out.frozen 0
  have HOP := Aside0.mk (show w1.ownsRow B 29 5 (.slice A n c) n (vals R.mail) by have h1 := own_of_mail HN1.out.own; rw [← HNN.out] at h1; exact h1)
  have HVNE := Aside0.mk HN1.out.vne
  have hBB := HN1.out.base
  have n0 := World.new_ne w1 ⟨r, 0, none⟩ hc0
  have ya := (HN1.out.alloc (.cells #[.int .i64 d, .int .i64 ma, .int .i64 mb, .string s, .int .i64 0] 29 (0, 0))).cell0
  have yb := (HN1.out.alloc (.cells #[.int .i64 d, .int .i64 ma, .int .i64 mb, .string s, .int .i64 0] 29 (0, 0))).cell1
  go_region_law ((go_loud (refine step_append_lies _ (by rfl) _ _ _ (by rfl) B 29 i0 _ 5 48 Try.underlying43 hi0 hz0 hz1 hz2 rfl (by omega) (.slice A n c) n (vals R.mail) (by rfl) ((HOP.out.alloc _).drew) ⟨w1.heap.size, 0, none⟩ 1 1 [.int .i64 d, .int .i64 ma, .int .i64 mb, .string s, .int .i64 0] (by rfl) (by rfl) (World.news_of_block (cs := #[.int .i64 d, .int .i64 ma, .int .i64 mb, .string s, .int .i64 0]) (t := 29) (fr := (0, 0)) (heap_alloc_new w1 _)) (by simp [Value.oneCell']) (by omega) (by unfold maxLen; omega) (by omega) (by simp; omega) (w1.heap.size + 1) (by simp) ?_); intro gg cap w3 hown1 hgrow hat hlt; have hcz := (hgrow.cell_far ⟨r, 0, none⟩ (by simp; have := HN1.out.lt; omega) HVNE.out).trans (((HN1.out.alloc _).drew).cell0); have hcy := (hgrow.cell_far ⟨r, 1, none⟩ (by simp; have := HN1.out.lt; omega) HVNE.out).trans (((HN1.out.alloc _).drew).cell1); have hfz := (hgrow.frozen_far ⟨r, 0, none⟩ (by simp; have := HN1.out.lt; omega) HVNE.out).trans (((HN1.out.alloc _).drew).frozen 0); have HG := Aside0.mk hgrow; have HW := Aside0.mk hown1; have HAT := Aside0.mk hat; clear hgrow hown1 hat))
  all_goals
    go_wp2
    go_ret2
    have hW : w3.ownsRow B 29 5 (.slice (some ⟨gg, 0, none⟩) (n + 1) cap) (R.mail ++ [(⟨d, ma, mb, s, 0⟩ : Mail)]).length (vals (R.mail ++ [(⟨d, ma, mb, s, 0⟩ : Mail)])) := by
      rw [List.length_append, vals_app, ← HNN.out]
      exact HW.out
    exact ⟨rfl, _, ((HN1.out.alloc _).drew).grown_mail HG.out _ _ hW, HK1.out.grown_mail HN1.out _ HG.out gg (n + 1) cap HAT.out⟩
theorem rSend_calls {B : Nat} {w : World} {r : Nat} {v u : Value} {R : RNet} (h : RAt B w r v u R) (a b : Int) (s : ByteArray) :
    Calls Try.prog 32 #[.pointer (some ⟨r, 0, none⟩), .int .i64 a, .int .i64 b, .string s] w fun e w' => e = .returned (.tuple #[.int .i64 (rSend R a b s).1, .bool (rSend R a b s).2.1]) ∧ ∃ v', RAt B w' r v' u (rSend R a b s).2.2 ∧ Kr B w r v u w' v' := by
  by_cases hc : two a b = true ∧ s.size ≤ 80000 ∧ R.mail.length < 2000
  · refine (rSend_yes h a b s hc.1 hc.2.1 hc.2.2).mono fun e w' hh => ?_
    rw [rSend, if_pos hc]
    exact hh
  · refine (rSend_no h a b s _ _ rfl rfl ?_).mono fun e w' hh => ?_
    · have htw : two a b = (decide (0 ≤ a ∧ a < 64) && (decide (0 ≤ b ∧ b < 64) && (a != b))) := rfl
      rw [htw] at hc
      cases h1 : decide (0 ≤ a ∧ a < 64)
      · exact .inl rfl
      · cases h2 : decide (0 ≤ b ∧ b < 64)
        · exact .inr (.inl ⟨rfl, rfl⟩)
        · cases h3 : (a == b)
          · refine .inr (.inr (.inr ?_))
            rw [h1, h2, bne, h3] at hc
            by_cases h4 : s.size ≤ 80000
            · exact .inr ⟨rfl, rfl, rfl, decide_eq_false (by omega), decide_eq_true (by have : ¬ R.mail.length < 2000 := fun h5 => hc ⟨rfl, h4, h5⟩; omega)⟩
            · exact .inl ⟨rfl, rfl, rfl, decide_eq_true (by omega)⟩
          · exact .inr (.inr (.inl ⟨rfl, rfl, rfl⟩))
    · rw [rSend, if_neg hc]
      obtain ⟨he, nd, rfl⟩ := hh
      exact ⟨he, v, h.drewN nd, Kr.of_below h.base (pw_below_drewN (Below.refl _ _) nd)⟩
def rDouble (R : RNet) (which : Int) : Bool × RNet := if R.mail.length = 0 ∨ 2000 ≤ R.mail.length then (false, R) else (true, { R with mail := R.mail ++ [{ R.mail.getD (pickN which R.mail.length) zeroMail with id := wrap64 (R.last + 1), age := 0 }], last := wrap64 (R.last + 1) })
set_option maxHeartbeats 8000000 in
set_option maxRecDepth 100000 in
theorem rDouble_no {B : Nat} {w : World} {r : Nat} {v u : Value} {R : RNet} (h : RAt B w r v u R) (which : Int)
    (hh : ((R.mail.length : Int) == 0) = true ∨ (((R.mail.length : Int) == 0) = false ∧ decide ((R.mail.length : Int) ≥ 2000) = true)) :
    Calls Try.prog 26 #[.pointer (some ⟨r, 0, none⟩), .int .i64 which] w fun e w' => e = .returned (.bool false) ∧ w' = w := by
  have hu49 := Try.underlying49
  obtain ⟨A, c, e0⟩ := Kd.R_slice h.own
  subst e0
  have hc0 := h.cell0
  have HN := Aside0.mk h
  clear h
  rcases hh with e0 | ⟨e0, e1⟩
  all_goals
    go_enter Try.func26, Try.ntmps26
    go_wp2
    go_ret
    exact ⟨rfl, rfl⟩
theorem five_set {w W : World} {gb : Nat} (m : Mail) (hb : W.heap[gb]? = some (.cells #[.int .i64 0, .int .i64 0, .int .i64 0, .string ⟨#[]⟩, .int .i64 0] 29 (0, 0))) (hB : Below w.heap.size w W) (hg : w.heap.size ≤ gb) :
    (((((W.setCell ⟨gb, 0, none⟩ (.int .i64 m.id)).setCell ⟨gb, 1, none⟩ (.int .i64 m.frm)).setCell ⟨gb, 2, none⟩ (.int .i64 m.to_)).setCell ⟨gb, 3, none⟩ (.string m.body)).setCell ⟨gb, 4, none⟩ (.int .i64 m.age)).heap[gb]? = some (.cells m.cells.toArray 29 (0, 0)) ∧
    Below w.heap.size w (((((W.setCell ⟨gb, 0, none⟩ (.int .i64 m.id)).setCell ⟨gb, 1, none⟩ (.int .i64 m.frm)).setCell ⟨gb, 2, none⟩ (.int .i64 m.to_)).setCell ⟨gb, 3, none⟩ (.string m.body)).setCell ⟨gb, 4, none⟩ (.int .i64 m.age)) := by
  have h := blk_set (blk_set (blk_set (blk_set (blk_set hb 0 (.int .i64 m.id)) 1 (.int .i64 m.frm)) 2 (.int .i64 m.to_)) 3 (.string m.body)) 4 (.int .i64 m.age)
  simp only [List.setIfInBounds_toArray, List.set_cons_succ, List.set_cons_zero] at h
  exact ⟨h, ((((hB.setCell (p := ⟨gb, 0, none⟩) hg _).setCell (p := ⟨gb, 1, none⟩) hg _).setCell (p := ⟨gb, 2, none⟩) hg _).setCell (p := ⟨gb, 3, none⟩) hg _).setCell (p := ⟨gb, 4, none⟩) hg _⟩
theorem RAt.far {B : Nat} {w : World} {r : Nat} {v u : Value} {R : RNet} (h : RAt B w r v u R) {p : Addr} (x : Value) (h1 : p.block ≠ r) (h2 : some p.block ≠ v.ownBlock) (h3 : some p.block ≠ u.ownBlock) : RAt B (w.setCell p x) r v u R :=
  h.keep (Below.heap_setCell w p x r (Ne.symm h1)) (fun b hb => Below.heap_setCell w p x b (fun e => h2 (by rw [← e]; exact hb.symm))) (fun b hb => Below.heap_setCell w p x b (fun e => h3 (by rw [← e]; exact hb.symm)))
theorem Kr.new_set {B : Nat} {w w1 : World} {r : Nat} {v u v1 : Value} (h : Kr B w r v u w1 v1) (hB : B ≤ w.heap.size) {p : Addr} (hp : w.heap.size ≤ p.block) (x : Value) : Kr B w r v u (w1.setCell p x) v1 :=
  ⟨h.below.setCell (Nat.le_trans hB hp) x, fun i hi h1 h2 h3 => (Below.heap_setCell w1 p x i (by omega)).trans (h.keep i hi h1 h2 h3), h.own⟩
theorem new_zero (w : World) (k : Nat) : ∀ j u, [Value.int .i64 0, .int .i64 0, .int .i64 0, .string ⟨#[]⟩, .int .i64 0][j]? = some u → ((w.drewN k).alloc (.cells #[.int .i64 0, .int .i64 0, .int .i64 0, .string ⟨#[]⟩, .int .i64 0] 29 (0, 0))).cell? ⟨w.heap.size, j, none⟩ = some u ∧ ((w.drewN k).alloc (.cells #[.int .i64 0, .int .i64 0, .int .i64 0, .string ⟨#[]⟩, .int .i64 0] 29 (0, 0))).frozen? ⟨w.heap.size, j, none⟩ = false := fun j u hj => by
  have hb : ((w.drewN k).alloc (.cells #[.int .i64 0, .int .i64 0, .int .i64 0, .string ⟨#[]⟩, .int .i64 0] 29 (0, 0))).heap[w.heap.size]? = some (.cells #[.int .i64 0, .int .i64 0, .int .i64 0, .string ⟨#[]⟩, .int .i64 0] 29 (0, 0)) := blk_new (w.drewN k) _
  exact ⟨by rw [blk_cell hb]; simpa using hj, blk_frozen hb j⟩
set_option maxHeartbeats 8000000 in
set_option maxRecDepth 100000 in
theorem rDouble_yes {B : Nat} {w : World} {r : Nat} {v u : Value} {R : RNet} (h : RAt B w r v u R) (which : Int) (hw : (Lit.int .i64 which).wf = true) (h1 : 0 < R.mail.length) (h2 : R.mail.length < 2000) (m : Mail) (hm : m = R.mail.getD (pickN which R.mail.length) zeroMail) :
    Calls Try.prog 26 #[.pointer (some ⟨r, 0, none⟩), .int .i64 which] w fun e w' => e = .returned (.bool true) ∧ ∃ v', RAt B w' r v' u { R with mail := R.mail ++ [{ m with id := wrap64 (R.last + 1), age := 0 }], last := wrap64 (R.last + 1) } ∧ Kr B w r v u w' v' := by
  have hu49 := Try.underlying49
  have hu29 := Try.underlying29
  have hz29 := zero29
  have hp := which_told which hw R.mail.length h1
  have hpl := (pick_told which hw R.mail.length h1).2
  obtain ⟨i, hi⟩ : ∃ i, i = pickN which R.mail.length := ⟨_, rfl⟩
  rw [← hi] at hp hpl hm
  obtain ⟨i0, hi0, hz0, hz1, hz2⟩ := info_parts info29
  obtain ⟨A, c, e0⟩ := Kd.R_slice h.own
  subst e0
  obtain ⟨bb, cc, e1, _⟩ := R_plain h.own h1
  injection e1 with e11 e12 e13
  subst e11
  have hc0 := h.cell0
  have x0 := R_mailat h.own i 0 hpl (.int .i64 m.id) (by rw [hm]; rfl)
  rw [Nat.add_zero] at x0
  have x1 := R_mailat h.own i 1 hpl (.int .i64 m.frm) (by rw [hm]; rfl)
  have x2 := R_mailat h.own i 2 hpl (.int .i64 m.to_) (by rw [hm]; rfl)
  have x3 := R_mailat h.own i 3 hpl (.string m.body) (by rw [hm]; rfl)
  have x4 := R_mailat h.own i 4 hpl (.int .i64 m.age) (by rw [hm]; rfl)
  obtain ⟨n, hn⟩ : ∃ n, n = R.mail.length := ⟨_, rfl⟩
  rw [← hn] at h1 h2 h hc0 hp hpl ⊢
  have p1 : (0 : Int) ≤ (i : Int) := Int.natCast_nonneg _
  have q1 : (i : Int) < (n : Int) := by omega
  have q2 : ((n : Int) == 0) = false := by rw [beq_eq_false_iff_ne]; omega
  have q3 : decide ((n : Int) ≥ 2000) = false := decide_eq_false (by omega)
  have HNN := Aside0.mk hn
  have HN := Aside0.mk h
  have HP := Aside0.mk hp
  obtain ⟨d, hd⟩ : ∃ d, d = wrap64 (R.last + 1) := ⟨_, rfl⟩
  rw [← hd]
  have HD := Aside0.mk hd
  clear h h1 hn hd hp hpl hi hm e12 e13
  go_enter Try.func26, Try.ntmps26
  go_upto_region 3 with (fail)
  go_cut [5] (fun v5 wc => ∃ gb, v5 = .pointer (some ⟨gb, 0, none⟩) ∧ Aside0 (wc.heap[gb]? = some (.cells m.cells.toArray 29 (0, 0))) ∧ Aside0 (Below w.heap.size w wc) ∧ Aside0 (w.heap.size ≤ gb))
  case first =>
    have za0 := fun k => (new_zero w k 0 _ rfl).1
    have za1 := fun k => (new_zero w k 1 _ rfl).1
    have za2 := fun k => (new_zero w k 2 _ rfl).1
    have za3 := fun k => (new_zero w k 3 _ rfl).1
    have za4 := fun k => (new_zero w k 4 _ rfl).1
    have zb0 := fun k => (new_zero w k 0 _ rfl).2
    have zb1 := fun k => (new_zero w k 1 _ rfl).2
    have zb2 := fun k => (new_zero w k 2 _ rfl).2
    have zb3 := fun k => (new_zero w k 3 _ rfl).2
    have zb4 := fun k => (new_zero w k 4 _ rfl).2
    have hba := fun k => Below.alloc (pw_below_drewN (Below.refl w.heap.size w) k) (Nat.le_refl _) (.cells #[.int .i64 0, .int .i64 0, .int .i64 0, .string ⟨#[]⟩, .int .i64 0] 29 (0, 0))
    have yc0 := fun k => pw_cell_below (hba k) hc0
    have y0 := fun k => pw_cell_below (hba k) x0
    have y1 := fun k => pw_cell_below (hba k) x1
    have y2 := fun k => pw_cell_below (hba k) x2
    have y3 := fun k => pw_cell_below (hba k) x3
    have y4 := fun k => pw_cell_below (hba k) x4
    clear hba
    have zp0 : (w.alloc (.cells #[.int .i64 0, .int .i64 0, .int .i64 0, .string ⟨#[]⟩, .int .i64 0] 29 (0, 0))).cell? ⟨w.heap.size, 0, none⟩ = _ := (new_zero w 0 0 _ rfl).1
    have tp0 : (w.alloc (.cells #[.int .i64 0, .int .i64 0, .int .i64 0, .string ⟨#[]⟩, .int .i64 0] 29 (0, 0))).frozen? ⟨w.heap.size, 0, none⟩ = _ := (new_zero w 0 0 _ rfl).2
    have zp1 : (w.alloc (.cells #[.int .i64 0, .int .i64 0, .int .i64 0, .string ⟨#[]⟩, .int .i64 0] 29 (0, 0))).cell? ⟨w.heap.size, 1, none⟩ = _ := (new_zero w 0 1 _ rfl).1
    have tp1 : (w.alloc (.cells #[.int .i64 0, .int .i64 0, .int .i64 0, .string ⟨#[]⟩, .int .i64 0] 29 (0, 0))).frozen? ⟨w.heap.size, 1, none⟩ = _ := (new_zero w 0 1 _ rfl).2
    have zp2 : (w.alloc (.cells #[.int .i64 0, .int .i64 0, .int .i64 0, .string ⟨#[]⟩, .int .i64 0] 29 (0, 0))).cell? ⟨w.heap.size, 2, none⟩ = _ := (new_zero w 0 2 _ rfl).1
    have tp2 : (w.alloc (.cells #[.int .i64 0, .int .i64 0, .int .i64 0, .string ⟨#[]⟩, .int .i64 0] 29 (0, 0))).frozen? ⟨w.heap.size, 2, none⟩ = _ := (new_zero w 0 2 _ rfl).2
    have zp3 : (w.alloc (.cells #[.int .i64 0, .int .i64 0, .int .i64 0, .string ⟨#[]⟩, .int .i64 0] 29 (0, 0))).cell? ⟨w.heap.size, 3, none⟩ = _ := (new_zero w 0 3 _ rfl).1
    have tp3 : (w.alloc (.cells #[.int .i64 0, .int .i64 0, .int .i64 0, .string ⟨#[]⟩, .int .i64 0] 29 (0, 0))).frozen? ⟨w.heap.size, 3, none⟩ = _ := (new_zero w 0 3 _ rfl).2
    have zp4 : (w.alloc (.cells #[.int .i64 0, .int .i64 0, .int .i64 0, .string ⟨#[]⟩, .int .i64 0] 29 (0, 0))).cell? ⟨w.heap.size, 4, none⟩ = _ := (new_zero w 0 4 _ rfl).1
    have tp4 : (w.alloc (.cells #[.int .i64 0, .int .i64 0, .int .i64 0, .string ⟨#[]⟩, .int .i64 0] 29 (0, 0))).frozen? ⟨w.heap.size, 4, none⟩ = _ := (new_zero w 0 4 _ rfl).2
    have cp : (w.alloc (.cells #[.int .i64 0, .int .i64 0, .int .i64 0, .string ⟨#[]⟩, .int .i64 0] 29 (0, 0))).cell? ⟨r, 0, none⟩ = _ := yc0 0
    have yp0 : (w.alloc (.cells #[.int .i64 0, .int .i64 0, .int .i64 0, .string ⟨#[]⟩, .int .i64 0] 29 (0, 0))).cell? ⟨bb, i * 5, none⟩ = _ := y0 0
    have yp1 : (w.alloc (.cells #[.int .i64 0, .int .i64 0, .int .i64 0, .string ⟨#[]⟩, .int .i64 0] 29 (0, 0))).cell? ⟨bb, i * 5 + 1, none⟩ = _ := y1 0
    have yp2 : (w.alloc (.cells #[.int .i64 0, .int .i64 0, .int .i64 0, .string ⟨#[]⟩, .int .i64 0] 29 (0, 0))).cell? ⟨bb, i * 5 + 2, none⟩ = _ := y2 0
    have yp3 : (w.alloc (.cells #[.int .i64 0, .int .i64 0, .int .i64 0, .string ⟨#[]⟩, .int .i64 0] 29 (0, 0))).cell? ⟨bb, i * 5 + 3, none⟩ = _ := y3 0
    have yp4 : (w.alloc (.cells #[.int .i64 0, .int .i64 0, .int .i64 0, .string ⟨#[]⟩, .int .i64 0] 29 (0, 0))).cell? ⟨bb, i * 5 + 4, none⟩ = _ := y4 0
    have zq0 : (w.drew.alloc (.cells #[.int .i64 0, .int .i64 0, .int .i64 0, .string ⟨#[]⟩, .int .i64 0] 29 (0, 0))).cell? ⟨w.heap.size, 0, none⟩ = _ := (new_zero w 1 0 _ rfl).1
    have tq0 : (w.drew.alloc (.cells #[.int .i64 0, .int .i64 0, .int .i64 0, .string ⟨#[]⟩, .int .i64 0] 29 (0, 0))).frozen? ⟨w.heap.size, 0, none⟩ = _ := (new_zero w 1 0 _ rfl).2
    have zq1 : (w.drew.alloc (.cells #[.int .i64 0, .int .i64 0, .int .i64 0, .string ⟨#[]⟩, .int .i64 0] 29 (0, 0))).cell? ⟨w.heap.size, 1, none⟩ = _ := (new_zero w 1 1 _ rfl).1
    have tq1 : (w.drew.alloc (.cells #[.int .i64 0, .int .i64 0, .int .i64 0, .string ⟨#[]⟩, .int .i64 0] 29 (0, 0))).frozen? ⟨w.heap.size, 1, none⟩ = _ := (new_zero w 1 1 _ rfl).2
    have zq2 : (w.drew.alloc (.cells #[.int .i64 0, .int .i64 0, .int .i64 0, .string ⟨#[]⟩, .int .i64 0] 29 (0, 0))).cell? ⟨w.heap.size, 2, none⟩ = _ := (new_zero w 1 2 _ rfl).1
    have tq2 : (w.drew.alloc (.cells #[.int .i64 0, .int .i64 0, .int .i64 0, .string ⟨#[]⟩, .int .i64 0] 29 (0, 0))).frozen? ⟨w.heap.size, 2, none⟩ = _ := (new_zero w 1 2 _ rfl).2
    have zq3 : (w.drew.alloc (.cells #[.int .i64 0, .int .i64 0, .int .i64 0, .string ⟨#[]⟩, .int .i64 0] 29 (0, 0))).cell? ⟨w.heap.size, 3, none⟩ = _ := (new_zero w 1 3 _ rfl).1
    have tq3 : (w.drew.alloc (.cells #[.int .i64 0, .int .i64 0, .int .i64 0, .string ⟨#[]⟩, .int .i64 0] 29 (0, 0))).frozen? ⟨w.heap.size, 3, none⟩ = _ := (new_zero w 1 3 _ rfl).2
    have zq4 : (w.drew.alloc (.cells #[.int .i64 0, .int .i64 0, .int .i64 0, .string ⟨#[]⟩, .int .i64 0] 29 (0, 0))).cell? ⟨w.heap.size, 4, none⟩ = _ := (new_zero w 1 4 _ rfl).1
    have tq4 : (w.drew.alloc (.cells #[.int .i64 0, .int .i64 0, .int .i64 0, .string ⟨#[]⟩, .int .i64 0] 29 (0, 0))).frozen? ⟨w.heap.size, 4, none⟩ = _ := (new_zero w 1 4 _ rfl).2
    have cq : (w.drew.alloc (.cells #[.int .i64 0, .int .i64 0, .int .i64 0, .string ⟨#[]⟩, .int .i64 0] 29 (0, 0))).cell? ⟨r, 0, none⟩ = _ := yc0 1
    have yq0 : (w.drew.alloc (.cells #[.int .i64 0, .int .i64 0, .int .i64 0, .string ⟨#[]⟩, .int .i64 0] 29 (0, 0))).cell? ⟨bb, i * 5, none⟩ = _ := y0 1
    have yq1 : (w.drew.alloc (.cells #[.int .i64 0, .int .i64 0, .int .i64 0, .string ⟨#[]⟩, .int .i64 0] 29 (0, 0))).cell? ⟨bb, i * 5 + 1, none⟩ = _ := y1 1
    have yq2 : (w.drew.alloc (.cells #[.int .i64 0, .int .i64 0, .int .i64 0, .string ⟨#[]⟩, .int .i64 0] 29 (0, 0))).cell? ⟨bb, i * 5 + 2, none⟩ = _ := y2 1
    have yq3 : (w.drew.alloc (.cells #[.int .i64 0, .int .i64 0, .int .i64 0, .string ⟨#[]⟩, .int .i64 0] 29 (0, 0))).cell? ⟨bb, i * 5 + 3, none⟩ = _ := y3 1
    have yq4 : (w.drew.alloc (.cells #[.int .i64 0, .int .i64 0, .int .i64 0, .string ⟨#[]⟩, .int .i64 0] 29 (0, 0))).cell? ⟨bb, i * 5 + 4, none⟩ = _ := y4 1
    go_region_with (first
      | (go_at_call 45; (with_reducible refine (heliographref14_Which.calls which _ _ _ HP.out).mono ?_); rintro e w' ⟨rfl, ⟨nd, rfl⟩⟩))
    all_goals
      go_wp2
      go_meet
      case rel => exact ⟨_, rfl, by
        first
        | exact ⟨⟨(five_set m (blk_new (w.drewN (1 + nd)) _) (Below.alloc (pw_below_drewN (Below.refl w.heap.size w) (1 + nd)) (Nat.le_refl _) _) (Nat.le_refl _)).1⟩, ⟨(five_set m (blk_new (w.drewN (1 + nd)) _) (Below.alloc (pw_below_drewN (Below.refl w.heap.size w) (1 + nd)) (Nat.le_refl _) _) (Nat.le_refl _)).2⟩, ⟨Nat.le_refl _⟩⟩
        | exact ⟨⟨(five_set m (blk_drewN (blk_new w _) (1 + nd)) (pw_below_drewN (Below.alloc (Below.refl w.heap.size w) (Nat.le_refl _) _) (1 + nd)) (Nat.le_refl _)).1⟩, ⟨(five_set m (blk_drewN (blk_new w _) (1 + nd)) (pw_below_drewN (Below.alloc (Below.refl w.heap.size w) (Nat.le_refl _) _) (1 + nd)) (Nat.le_refl _)).2⟩, ⟨Nat.le_refl _⟩⟩⟩
  case rest =>
    obtain ⟨gb, rfl, HX1, HB1, HG1⟩ := hcut
    clear x0 x1 x2 x3 x4 hc0
    have HN1 := Aside0.mk (HN.out.below HB1.out)
    have hc1 := HN1.out.cell1
    have hf1 := HN1.out.frozen 1
    have HFR := Aside0.mk (HN.out.fresh HG1.out)
    have hne : gb ≠ r := HFR.out.1
    have hne2 : r ≠ gb := hne.symm
    have y0 := blk_cell HX1.out 0
    have y1 := blk_cell HX1.out 1
    have y2 := blk_cell HX1.out 2
    have y3 := blk_cell HX1.out 3
    have y4 := blk_cell HX1.out 4
    have z0 := blk_frozen HX1.out 0
    have z4 := blk_frozen HX1.out 4
    simp only [mail_cells, List.getElem?_toArray, List.getElem?_cons_zero, List.getElem?_cons_succ] at y0 y1 y2 y3 y4
    go_upto_region 7 with (fail)
    have hset := ((HN1.out.set1 (wrap64 (R.last + 1))).far (p := ⟨gb, 0, none⟩) (.int .i64 (wrap64 (R.last + 1))) HFR.out.1 HFR.out.2.1 HFR.out.2.2).far (p := ⟨gb, 4, none⟩) (.int .i64 0) HFR.out.1 HFR.out.2.1 HFR.out.2.2
    have hkr := ((((Kr.of_below (r := r) (v := .slice (some ⟨bb, 0, none⟩) n c) (u := u) HN.out.base HB1.out).set HN.out.ge 1 (.int .i64 (wrap64 (R.last + 1)))).new_set HN.out.base (p := ⟨gb, 0, none⟩) HG1.out (.int .i64 (wrap64 (R.last + 1)))).new_set HN.out.base (p := ⟨gb, 4, none⟩) HG1.out (.int .i64 0))
    have hbx := blk_set (blk_set (blk_far (p := ⟨r, 1, none⟩) HX1.out hne (.int .i64 (wrap64 (R.last + 1)))) 0 (.int .i64 (wrap64 (R.last + 1)))) 4 (.int .i64 0)
    rw [mail_cells] at hbx
    simp only [List.setIfInBounds_toArray, List.set_cons_succ, List.set_cons_zero] at hbx
    rw [← HD.out] at hset hkr hbx ⊢
    generalize ((wc.setCell ⟨r, 1, none⟩ (.int .i64 d)).setCell ⟨gb, 0, none⟩ (.int .i64 d)).setCell ⟨gb, 4, none⟩ (.int .i64 0) = w1 at hset hkr hbx ⊢
    have HN2 := Aside0.mk hset
    have HK2 := Aside0.mk hkr
    have HX2 := Aside0.mk hbx
    clear hc1 hf1 hset hkr hbx y0 y1 y2 y3 y4 z0 z4 hne hne2
    have y0 := blk_cell HX2.out 0
    have y1 := blk_cell HX2.out 1
    have y2 := blk_cell HX2.out 2
    have y3 := blk_cell HX2.out 3
    have y4 := blk_cell HX2.out 4
    simp only [List.getElem?_toArray, List.getElem?_cons_zero, List.getElem?_cons_succ] at y0 y1 y2 y3 y4
    have hc0 := HN2.out.cell0
    have hf0 := HN2.out.frozen 0
    have HOP := Aside0.mk (show w1.ownsRow B 29 5 (.slice (some ⟨bb, 0, none⟩) n c) n (vals R.mail) by have h1 := own_of_mail HN2.out.own; rw [← HNN.out] at h1; exact h1)
    have HVNE := Aside0.mk HN2.out.vne
    have hBB := HN2.out.base
    have n0 := World.new_ne w1 ⟨r, 0, none⟩ hc0
    have ya := (HN2.out.alloc (.cells #[.int .i64 d, .int .i64 m.frm, .int .i64 m.to_, .string m.body, .int .i64 0] 29 (0, 0))).cell0
    go_region_law ((go_loud (refine step_append_lies _ (by rfl) _ _ _ (by rfl) B 29 i0 _ 5 48 Try.underlying43 hi0 hz0 hz1 hz2 rfl (by omega) (.slice (some ⟨bb, 0, none⟩) n c) n (vals R.mail) (by rfl) ((HOP.out.alloc _).drew) ⟨w1.heap.size, 0, none⟩ 1 1 [.int .i64 d, .int .i64 m.frm, .int .i64 m.to_, .string m.body, .int .i64 0] (by rfl) (by rfl) (World.news_of_block (cs := #[.int .i64 d, .int .i64 m.frm, .int .i64 m.to_, .string m.body, .int .i64 0]) (t := 29) (fr := (0, 0)) (heap_alloc_new w1 _)) (by simp [Value.oneCell']) (by omega) (by unfold maxLen; omega) (by omega) (by simp; omega) (w1.heap.size + 1) (by simp) ?_); intro gg cap w3 hown1 hgrow hat hlt; have hcz := (hgrow.cell_far ⟨r, 0, none⟩ (by simp; have := HN2.out.lt; omega) HVNE.out).trans (((HN2.out.alloc _).drew).cell0); have hfz := (hgrow.frozen_far ⟨r, 0, none⟩ (by simp; have := HN2.out.lt; omega) HVNE.out).trans (((HN2.out.alloc _).drew).frozen 0); have HG := Aside0.mk hgrow; have HW := Aside0.mk hown1; have HAT := Aside0.mk hat; clear hgrow hown1 hat))
    all_goals
      go_wp2
      go_ret
      have hW : w3.ownsRow B 29 5 (.slice (some ⟨gg, 0, none⟩) (n + 1) cap) (R.mail ++ [({ m with id := d, age := 0 } : Mail)]).length (vals (R.mail ++ [({ m with id := d, age := 0 } : Mail)])) := by
        rw [List.length_append, vals_app, ← HNN.out]
        exact HW.out
      exact ⟨rfl, _, ((HN2.out.alloc _).drew).grown_mail HG.out _ _ hW, HK2.out.grown_mail HN2.out _ HG.out gg (n + 1) cap HAT.out⟩
theorem rDouble_calls {B : Nat} {w : World} {r : Nat} {v u : Value} {R : RNet} (h : RAt B w r v u R) (which : Int) (hw : (Lit.int .i64 which).wf = true) :
    Calls Try.prog 26 #[.pointer (some ⟨r, 0, none⟩), .int .i64 which] w fun e w' => e = .returned (.bool (rDouble R which).1) ∧ ∃ v', RAt B w' r v' u (rDouble R which).2 ∧ Kr B w r v u w' v' := by
  by_cases hc : R.mail.length = 0 ∨ 2000 ≤ R.mail.length
  · refine (rDouble_no h which ?_).mono fun e w' hh => ?_
    · rcases hc with hc | hc
      · exact .inl (by rw [hc]; rfl)
      · exact .inr ⟨by rw [beq_eq_false_iff_ne]; omega, decide_eq_true (by omega)⟩
    · rw [rDouble, if_pos hc, hh.2]
      exact ⟨hh.1, v, h, Kr.refl _ _ _ _ _⟩
  · refine (rDouble_yes h which hw (by omega) (by omega) _ rfl).mono fun e w' hh => ?_
    rw [rDouble, if_neg hc]
    exact hh
end Go.Proofs.Ytnggcegfieeonaa.Nx
