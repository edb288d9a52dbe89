/- What is proved: what the network's method Oldest comes to. No condition but what each theorem says. -/
import Derived.Test.YtnggcegfieeonaaNwj
namespace Go.Proofs.Ytnggcegfieeonaa.Nx
open Go.RowKit Go.Proofs.YtnggcegfieeonaaW.PrintWords Go.Proofs.YtnggcegfieeonaaW.PrintLast Go.Proofs.YtnggcegfieeonaaW.PrintMore
open Go.Proofs.Ytnggcegfieeonaa.PNetFull
set_option linter.unusedVariables false
set_option linter.unusedSimpArgs false
set_option maxHeartbeats 8000000 in
set_option maxRecDepth 100000 in
theorem less_calls (w : World) (m n : Mail) : Calls Try.prog 44 #[m.val, n.val] w fun e w' => e = .returned (.int .i64 (wrap64 (m.age - n.age))) ∧ Below w.heap.size w w' := by
  have hu29 := Try.underlying29
  unfold Mail.val
  go_enter Try.func44, Try.ntmps44
  go_wp2_with (first
    | ((with_reducible refine gate_dst (N := 2) rfl ?_); refine box_event ?hg (N := 2) ?hd (cs := #[.int .i64 m.id, .int .i64 m.frm, .int .i64 m.to_, .string m.body, .int .i64 m.age]) (t := 29) ?hr ?_; (case hd => rfl); (case hg => rfl); (case hr => first | (go_simp; done) | (go_simp; rfl)); intro ga hg w1 hbox hb; have HB1 := Aside0.mk hb; have HX1 := Aside0.mk hbox; clear hbox hb hg)
    | ((with_reducible refine gate_dst (N := 3) rfl ?_); refine box_event ?hg (N := 3) ?hd (cs := #[.int .i64 n.id, .int .i64 n.frm, .int .i64 n.to_, .string n.body, .int .i64 n.age]) (t := 29) ?hr ?_; (case hd => rfl); (case hg => rfl); (case hr => first | (go_simp; done) | (go_simp; rfl)); intro gc hg w2 hbox hb; have HB2 := Aside0.mk (HB1.out.trans (hb.mono HB1.out.size)); have HY2 := Aside0.mk hbox; have HX2 := Aside0.mk ((hb.block ga (blk_lt HX1.out)).trans HX1.out); have x4 := blk_cell HX2.out 4; have y4 := blk_cell HY2.out 4; simp only [List.getElem?_toArray, List.getElem?_cons_zero, List.getElem?_cons_succ] at x4 y4; clear hbox hb hg))
  go_ret
  exact ⟨rfl, HB2.out⟩
/-- The one of the least age among the first i + 1. -/
def minI (l : List Mail) : Nat → Mail
  | 0 => l.getD 0 zeroMail
  | i + 1 => if wrap64 ((l.getD (i + 1) zeroMail).age - (minI l i).age) < 0 then l.getD (i + 1) zeroMail else minI l i
set_option maxHeartbeats 8000000 in
set_option maxRecDepth 100000 in
theorem min_calls {B : Nat} {w : World} {g b n c : Nat} {S : Net} (h : NetAt B w g (.slice (some ⟨b, 0, none⟩) n c) S) (hn : n = S.mail.length) (h0 : 0 < n) (hlen : n < 1000000) :
    Calls Try.prog 43 #[.slice (some ⟨b, 0, none⟩) n c, .func (.func 44) #[] #[]] w fun e w' => e = .returned (minI S.mail (n - 1)).val ∧ Below w.heap.size w w' := by
  have hu29 := Try.underlying29
  have HN := Aside0.mk h
  have HNN := Aside0.mk hn
  have HL := Aside0.mk hlen
  have H0 := Aside0.mk h0
  have HBL := Aside0.mk (h.own_lt b rfl)
  have e1 : decide ((n : Int) < 1) = false := decide_eq_false (by omega)
  have e2 : decide (n < 1) = false := decide_eq_false (by omega)
  have e3 : (0 : Int) < (n : Int) := by omega
  obtain ⟨m0, hm0⟩ : ∃ m, m = minI S.mail 0 := ⟨_, rfl⟩
  have HM0 := Aside0.mk hm0
  clear h hn hlen h0 hm0
  go_enter Try.func43, Try.ntmps43
  go_wp2_with (first
    | ((with_reducible refine gate_dst (N := 4) rfl ?_); refine box_event ?hg (N := 4) ?hd (cs := #[.int .i64 0, .int .i64 0, .int .i64 0, .string ⟨#[]⟩, .int .i64 0]) (t := 29) ?hr ?_; (case hd => rfl); (case hg => rfl); (case hr => first | (go_simp; done) | (go_simp; rfl)); intro gb hg w1 hbox hb; have HB1 := Aside0.mk hb; have HG1 := Aside0.mk hg; have HX1 := Aside0.mk hbox; have HN1 := Aside0.mk (HN.out.below hb); have hl0 : 0 < S.mail.length := (by have h1 := HNN.out; have h2 := H0.out; omega); have x0 := HN1.out.mailat 0 0 hl0 (by decide) (.int .i64 m0.id) (by rw [HM0.out]; rfl); have x1 := HN1.out.mailat 0 1 hl0 (by decide) (.int .i64 m0.frm) (by rw [HM0.out]; rfl); have x2 := HN1.out.mailat 0 2 hl0 (by decide) (.int .i64 m0.to_) (by rw [HM0.out]; rfl); have x3 := HN1.out.mailat 0 3 hl0 (by decide) (.string m0.body) (by rw [HM0.out]; rfl); have x4 := HN1.out.mailat 0 4 hl0 (by decide) (.int .i64 m0.age) (by rw [HM0.out]; rfl); rw [Nat.zero_mul, Nat.zero_add] at x0 x1 x2 x3 x4; clear hbox hb hg hl0)
    | ((with_reducible refine gate_dst (N := 5) rfl ?_); refine box_event ?hg (N := 5) ?hd (cs := #[.int .i64 0, .int .i64 0, .int .i64 0, .string ⟨#[]⟩, .int .i64 0]) (t := 29) ?hr ?_; (case hd => rfl); (case hg => rfl); (case hr => first | (go_simp; done) | (go_simp; rfl)); intro gc hg w2 hbox hb; have HB2 := Aside0.mk (HB1.out.trans (hb.mono HB1.out.size)); have HG2 := Aside0.mk hg; have HY2 := Aside0.mk hbox; have HX2 := Aside0.mk ((hb.block gb (blk_lt HX1.out)).trans HX1.out); have HLT := Aside0.mk (show gb < gc by have h1 := blk_lt HX1.out; omega); clear hbox hb hg x0 x1 x2 x3 x4)
    | (refine store_box rfl (.tmp 5) (.tmp 13) rfl gc _ (by rfl) rfl m0 (by rfl) HY2.out ?_; intro w3 hx3 hfar3 hb3; have HY3 := Aside0.mk hx3; have HX3 := Aside0.mk ((hfar3 gb (Nat.ne_of_lt HLT.out)).trans HX2.out); have HB3 := Aside0.mk (HB2.out.trans (hb3.mono (by have h1 := HB1.out.size; have h2 := HG2.out; omega))); clear hx3 hfar3 hb3))
  (try simp only [Act.put, List.setIfInBounds_toArray, List.set_cons_zero, List.set_cons_succ])
  go_wp2
  go_loopg [6] n (fun kq v6 wr => ∃ i : Nat, v6 = .int .i64 ((i + 1 : Nat) : Int) ∧ Aside0 (kq + i = n ∧ i < n) ∧ Aside0 (wr.heap[gc]? = some (.cells (minI S.mail i).cells.toArray 29 (0, 0))) ∧ Aside0 (wr.heap[gb]? = some (.cells #[.int .i64 0, .int .i64 0, .int .i64 0, .string ⟨#[]⟩, .int .i64 0] 29 (0, 0))) ∧ Aside0 (Below w.heap.size w wr))
  case atStart => exact ⟨0, rfl, ⟨rfl, H0.out⟩, ⟨by rw [← HM0.out]; exact HY3.out⟩, HX3, HB3⟩
  case round =>
    obtain ⟨i, rfl, HI, HY, HX, HB⟩ := hrel
    have HN4 := Aside0.mk (HN.out.below HB.out)
    obtain ⟨mn, hmn⟩ : ∃ mn, mn = minI S.mail i := ⟨_, rfl⟩
    rw [← hmn] at HY
    have HMN := Aside0.mk hmn
    clear hmn
    by_cases hlt : i + 1 < n
    · have f1 : decide (((i + 1 : Nat) : Int) < (n : Int)) = true := decide_eq_true (by omega)
      have f2 : decide (i + 1 < n) = true := decide_eq_true hlt
      have f3 : decide ((i : Int) + 1 < (n : Int)) = true := decide_eq_true (by omega)
      obtain ⟨m, hm⟩ : ∃ m, m = S.mail.getD (i + 1) zeroMail := ⟨_, rfl⟩
      have hil : i + 1 < S.mail.length := by have h1 := HNN.out; omega
      have x0 := HN4.out.mailat (i + 1) 0 hil (by decide) (.int .i64 m.id) (by rw [hm]; rfl)
      rw [Nat.add_zero] at x0
      have x1 := HN4.out.mailat (i + 1) 1 hil (by decide) (.int .i64 m.frm) (by rw [hm]; rfl)
      have x2 := HN4.out.mailat (i + 1) 2 hil (by decide) (.int .i64 m.to_) (by rw [hm]; rfl)
      have x3 := HN4.out.mailat (i + 1) 3 hil (by decide) (.string m.body) (by rw [hm]; rfl)
      have x4 := HN4.out.mailat (i + 1) 4 hil (by decide) (.int .i64 m.age) (by rw [hm]; rfl)
      have q0 : (0 : Int) ≤ (i : Int) + 1 := by omega
      have q1 : (i : Int) + 1 < (n : Int) := by omega
      have q2 : ((i : Int) + 1).toNat = i + 1 := by omega
      have HM := Aside0.mk hm
      have HLT2 := Aside0.mk hlt
      clear hm hil hlt
      go_upto_region 7 with (fail)
      (try simp only [Act.put, List.setIfInBounds_toArray, List.set_cons_zero, List.set_cons_succ])
      go_cut [27] (fun v27 wc => v27 = .bool (decide (wrap64 (m.age - mn.age) < 0)) ∧ Aside0 (Below wr.heap.size wr wc))
      case first =>
        have y0 := blk_cell HY.out 0
        have y1 := blk_cell HY.out 1
        have y2 := blk_cell HY.out 2
        have y3 := blk_cell HY.out 3
        have y4 := blk_cell HY.out 4
        simp only [mail_cells, List.getElem?_toArray, List.getElem?_cons_zero, List.getElem?_cons_succ] at y0 y1 y2 y3 y4
        go_region_with (first
          | (go_at_call 44; (refine (less_calls _ m mn).mono ?_); rintro e w5 ⟨rfl, hb⟩; have HB5 := Aside0.mk hb; clear hb))
        all_goals
          go_wp2
          go_meet
          case rel => exact ⟨rfl, ⟨(Below.drew (Below.refl _ _)).trans HB5.out⟩⟩
      case rest =>
        obtain ⟨rfl, HBW⟩ := hcut
        clear x0 x1 x2 x3 x4
        have HN5 := Aside0.mk (HN4.out.below HBW.out)
        have HY5 := Aside0.mk ((HBW.out.block gc (blk_lt HY.out)).trans HY.out)
        have HX5 := Aside0.mk ((HBW.out.block gb (blk_lt HX.out)).trans HX.out)
        have HB5 := Aside0.mk (HB.out.trans (HBW.out.mono HB.out.size))
        have HIL := Aside0.mk (show i + 1 < S.mail.length by have h1 := HNN.out; have h2 := HLT2.out; omega)
        have ew : wrap64 (((i + 1 : Nat) : Int) + 1) = ((i + 1 + 1 : Nat) : Int) := by have h1 := HL.out; have h2 := HLT2.out; rw [wrap64]; omega
        have ew2 : wrap64 ((i : Int) + 1 + 1) = (i : Int) + 1 + 1 := by have h1 := HL.out; have h2 := HLT2.out; rw [wrap64]; omega
        by_cases hs : wrap64 (m.age - mn.age) < 0
        · have HE := Aside0.mk (show minI S.mail (i + 1) = m by rw [minI, ← HM.out, ← HMN.out, if_pos hs])
          rw [decide_eq_true hs]
          clear hs
          have x0 := HN5.out.mailat (i + 1) 0 HIL.out (by decide) (.int .i64 m.id) (by rw [HM.out]; rfl)
          rw [Nat.add_zero] at x0
          have x1 := HN5.out.mailat (i + 1) 1 HIL.out (by decide) (.int .i64 m.frm) (by rw [HM.out]; rfl)
          have x2 := HN5.out.mailat (i + 1) 2 HIL.out (by decide) (.int .i64 m.to_) (by rw [HM.out]; rfl)
          have x3 := HN5.out.mailat (i + 1) 3 HIL.out (by decide) (.string m.body) (by rw [HM.out]; rfl)
          have x4 := HN5.out.mailat (i + 1) 4 HIL.out (by decide) (.int .i64 m.age) (by rw [HM.out]; rfl)
          go_wp2_with (first
            | (refine store_box rfl (.tmp 5) (.tmp 31) rfl gc _ (by rfl) rfl m (by rfl) HY5.out ?_; intro w7 hx7 hfar7 hb7; have HY7 := Aside0.mk hx7; have HX7 := Aside0.mk ((hfar7 gb (Nat.ne_of_lt HLT.out)).trans HX5.out); have HB7 := Aside0.mk (HB5.out.trans (hb7.mono (by have h1 := HB1.out.size; have h2 := HG2.out; omega))); clear hx7 hfar7 hb7))
          (try simp only [Act.put, List.setIfInBounds_toArray, List.set_cons_zero, List.set_cons_succ])
          go_wp2
          go_roundg (gk - 1)
          case measure => have h1 := HI.out; have h2 := HLT2.out; omega
          case rel => exact ⟨i + 1, by go_num, ⟨by have h1 := HI.out; have h2 := HLT2.out; omega⟩, ⟨by rw [HE.out]; exact HY7.out⟩, HX7, HB7⟩
        · have HE := Aside0.mk (show minI S.mail (i + 1) = mn by rw [minI, ← HM.out, ← HMN.out, if_neg hs])
          rw [decide_eq_false hs]
          clear hs
          go_wp2
          go_roundg (gk - 1)
          case measure => have h1 := HI.out; have h2 := HLT2.out; omega
          case rel => exact ⟨i + 1, by go_num, ⟨by have h1 := HI.out; have h2 := HLT2.out; omega⟩, ⟨by rw [HE.out]; exact HY5.out⟩, HX5, HB5⟩
    · have f1 : decide (((i + 1 : Nat) : Int) < (n : Int)) = false := decide_eq_false (by omega)
      have f2 : decide (i + 1 < n) = false := decide_eq_false hlt
      have f3 : decide ((i : Int) + 1 < (n : Int)) = false := decide_eq_false (by omega)
      have HI2 := Aside0.mk (show i = n - 1 by have h1 := HI.out; omega)
      have HGC := Aside0.mk (show w.heap.size ≤ gc by have h1 := HB1.out.size; have h2 := HG2.out; omega)
      have y0 := blk_cell HY.out 0
      have y1 := blk_cell HY.out 1
      have y2 := blk_cell HY.out 2
      have y3 := blk_cell HY.out 3
      have y4 := blk_cell HY.out 4
      simp only [mail_cells, List.getElem?_toArray, List.getElem?_cons_zero, List.getElem?_cons_succ] at y0 y1 y2 y3 y4
      clear hlt
      go_wp2_with (first
        | (refine store_box rfl (.tmp 4) (.tmp 32) rfl gb _ (by rfl) rfl mn (by rfl) HX.out ?_; intro w7 hx7 hfar7 hb7; have HX7 := Aside0.mk hx7; have HB7 := Aside0.mk (HB.out.trans (hb7.mono (Nat.le_of_eq HG1.out.symm))); clear hx7 hfar7 hb7))
      (try simp only [Act.put, List.setIfInBounds_toArray, List.set_cons_zero, List.set_cons_succ])
      go_wp2
      refine bodyPost_ret (results_cell_row rfl _ _ gb 29 mn.cells.toArray (0, 0) _ rfl HX7.out Try.underlying29 rfl (by kernel_rfl)) rfl ?_
      exact ⟨by rw [← HI2.out, ← HMN.out]; rfl, HB7.out⟩
theorem field_age (W : World) (m : Mail) : (Instr.field 29 (.agg #[.int .i64 m.id, .int .i64 m.frm, .int .i64 m.to_, .string m.body, .int .i64 m.age]) 4).run Try.prog W = .ok (.int .i64 m.age) W := by kernel_rfl
set_option maxHeartbeats 8000000 in
set_option maxRecDepth 100000 in
theorem oldest_calls {B : Nat} {w : World} {g : Nat} {v : Value} {S : Net} (h : NetAt B w g v S) (h0 : 0 < S.mail.length) (hlen : S.mail.length < 1000000) :
    Calls Try.prog 22 #[.pointer (some ⟨g, 0, none⟩)] w fun e w' => e = .returned (.int .i64 (told S (minI S.mail (S.mail.length - 1))).age) ∧ Below w.heap.size w w' := by
  have hu55 := Try.underlying55
  have hu29 := Try.underlying29
  have hc0 := h.cell0
  obtain ⟨b, c, rfl⟩ := h.mailcell h0
  have e0 : ((S.mail.length : Int) == 0) = false := by rw [beq_eq_false_iff_ne]; omega
  have HN := Aside0.mk h
  have H0 := Aside0.mk h0
  have HL := Aside0.mk hlen
  obtain ⟨mn, hmn⟩ : ∃ mn, mn = minI S.mail (S.mail.length - 1) := ⟨_, rfl⟩
  rw [← hmn]
  have HMN := Aside0.mk hmn
  have hfl := fun W => field_age W (told S mn)
  clear h h0 hlen hmn
  go_enter Try.func22, Try.ntmps22
  go_wp2_with (first
    | (go_at_call 16; (with_reducible refine (waits_calls HN.out).mono ?_); rintro e w1 ⟨rfl, rfl⟩)
    | (go_at_call 43; (with_reducible refine (min_calls HN.out rfl H0.out HL.out).mono ?_); rintro e w2 ⟨he, hb⟩; rw [← HMN.out] at he; obtain rfl : e = .returned (.agg #[.int .i64 mn.id, .int .i64 mn.frm, .int .i64 mn.to_, .string mn.body, .int .i64 mn.age]) := he; have HN2 := Aside0.mk (HN.out.below hb); have HB2 := Aside0.mk hb; clear hb)
    | (go_at_call 40; (refine (told_calls HN2.out mn).mono ?_); rintro e w3 ⟨he, hb⟩; obtain rfl : e = .returned (.agg #[.int .i64 (told S mn).id, .int .i64 (told S mn).frm, .int .i64 (told S mn).to_, .string (told S mn).body, .int .i64 (told S mn).age]) := he; have HB3 := Aside0.mk (HB2.out.trans (hb.mono HB2.out.size)); clear hb))
  go_ret
  exact ⟨rfl, HB3.out⟩
end Go.Proofs.Ytnggcegfieeonaa.Nx
