/- What is proved: what the network's method Take comes to. No condition but what each theorem says. -/
import Derived.Test.YtnggcegfieeonaaNwh
namespace Go.Proofs.Ytnggcegfieeonaa.Nx
open Go.RowKit Go.Proofs.YtnggcegfieeonaaW.PrintWords Go.Proofs.YtnggcegfieeonaaW.PrintLast Go.Proofs.YtnggcegfieeonaaW.PrintMore
open Go.Proofs.Ytnggcegfieeonaa.PNetFull
set_option linter.unusedVariables false
set_option linter.unusedSimpArgs false
theorem delete_net {B : Nat} {w : World} {g b c : Nat} {S : Net} (h : NetAt B w g (.slice (some ⟨b, 0, none⟩) S.mail.length c) S) (i : Nat) (hi : i < S.mail.length) :
    Calls Try.prog 41 #[.slice (some ⟨b, 0, none⟩) S.mail.length c, .int .i64 (i : Int), .int .i64 ((i : Int) + 1)] w fun e w' => e = .returned (.slice (some ⟨b, 0, none⟩) (S.mail.length - 1) c) ∧
      w'.cell? ⟨g, 0, none⟩ = some (.slice (some ⟨b, 0, none⟩) S.mail.length c) ∧ w'.frozen? ⟨g, 0, none⟩ = false ∧ (∀ k, k ≠ b → w'.heap[k]? = w.heap[k]?) ∧
      NetAt B (w'.setCell ⟨g, 0, none⟩ (.slice (some ⟨b, 0, none⟩) (S.mail.length - 1) c)) g (.slice (some ⟨b, 0, none⟩) (S.mail.length - 1) c) { S with mail := S.mail.eraseIdx i } ∧
      Kp B w g (.slice (some ⟨b, 0, none⟩) S.mail.length c) (w'.setCell ⟨g, 0, none⟩ (.slice (some ⟨b, 0, none⟩) (S.mail.length - 1) c)) (.slice (some ⟨b, 0, none⟩) (S.mail.length - 1) c) := by
  obtain ⟨cur, hb, hcap, hmax, hcur, hl⟩ : ∃ cur, w.heap[b]? = some (.cells cur 29 (0, 0)) ∧ S.mail.length ≤ c ∧ c ≤ maxLen ∧ cur.size = c * 5 ∧ cur.toList.take (S.mail.length * 5) = vals S.mail := by
    rcases h.own.2 with ⟨e, _⟩ | ⟨b', c', cur, e, h1, h2, h3, h4, h5, h6⟩
    · cases e
    · injection e with e1 e2 e3
      injection e1 with e1
      injection e1 with e1
      subst e1
      subst e3
      exact ⟨cur, h2, h3, h4, h5, h6⟩
  have hbg : g ≠ b := fun e => h.ne (by rw [e]; rfl)
  have hd := delete_calls w b S.mail.length c i cur S.mail hb hcap hmax hcur hl rfl hi
  rw [show ((i + 1 : Nat) : Int) = (i : Int) + 1 from by omega] at hd
  refine hd.mono fun e w' hh => ?_
  obtain ⟨he, cur', p1, p2, p3, p4, p5⟩ := hh
  have hdel := h.deleted rfl hi p1 (by rw [p2]; exact hcur) p3 p4 p5
  exact ⟨he, (World.cell?_of_block (a := ⟨g, 0, none⟩) (p4 g hbg)).trans h.cell0, (World.frozen?_of_block (a := ⟨g, 0, none⟩) (p4 g hbg)).trans (h.frozen 0), p4, hdel.1, hdel.2⟩
def takeF (S : Net) (which : Int) : Mail × Bool × Net :=
  if (readyI S S.mail.length).length = 0 then (zeroMail, false, S)
  else (told S (S.mail.getD ((readyI S S.mail.length).getD (pickN which (readyI S S.mail.length).length) 0).toNat zeroMail), true, { S with mail := S.mail.eraseIdx ((readyI S S.mail.length).getD (pickN which (readyI S S.mail.length).length) 0).toNat })
set_option maxHeartbeats 8000000 in
set_option maxRecDepth 100000 in
theorem take_no {B : Nat} {w : World} {g : Nat} {v : Value} {S : Net} (h : NetAt B w g v S) (hgood : S.Good) (hlen : S.mail.length < 1000000) (which : Int) (h0 : (readyI S S.mail.length).length = 0) :
    Calls Try.prog 13 #[.pointer (some ⟨g, 0, none⟩), .int .i64 which] w fun e w' => e = .returned (.tuple #[zeroMail.val, .bool false]) ∧ Below w.heap.size w w' := by
  have hu55 := Try.underlying55
  have hu29 := Try.underlying29
  have HN := Aside0.mk h
  have HL := Aside0.mk hlen
  have HGD := Aside0.mk hgood
  have e0 : (((readyI S S.mail.length).length : Int) == 0) = true := by rw [h0]; rfl
  have hz := zero29
  clear h hlen hgood h0
  go_enter Try.func13, Try.ntmps13
  go_wp2_with (first
    | ((with_reducible refine gate_dst (N := 4) rfl ?_); refine box_event ?hg (N := 4) ?hd (cs := #[.int .i64 0, .int .i64 0, .int .i64 0, .string ⟨#[]⟩, .int .i64 0]) (t := 29) ?hr ?_; (case hd => rfl); (case hg => rfl); (case hr => first | (go_simp; done) | (go_simp; rfl)); intro gb hg w1 hbox hb; have HB1 := Aside0.mk hb; have HG1 := Aside0.mk hg; have HX1 := Aside0.mk hbox; have HN1 := Aside0.mk (HN.out.below hb); clear hbox hb hg)
    | (go_at_call 39; (with_reducible refine (ready_calls HN1.out HGD.out HL.out).mono ?_); rintro e w2 ⟨v9, rfl, ho, hb⟩; have HO2 := Aside0.mk ho; have HB2 := Aside0.mk (HB1.out.trans (hb.mono HB1.out.size)); have HX2 := Aside0.mk ((hb.block gb (blk_lt HX1.out)).trans HX1.out); obtain ⟨A9, c9, e9⟩ := Kd.R_slice ho; subst e9; clear ho hb)
    | (refine store_box rfl (.tmp 4) (.tmp 17) rfl gb _ (by rfl) rfl zeroMail (by rfl) HX2.out ?_; intro w3 hx3 hfar3 hb3; have HX3 := Aside0.mk hx3; have HB3 := Aside0.mk (HB2.out.trans (hb3.mono (Nat.le_of_eq HG1.out.symm))); clear hx3 hfar3 hb3))
  (try simp only [Act.put, List.setIfInBounds_toArray, List.set_cons_zero, List.set_cons_succ])
  go_wp2
  refine bodyPost_ret (results_ct rfl _ _ gb 29 zeroMail.cells.toArray (0, 0) _ rfl HX3.out Try.underlying29 rfl (by kernel_rfl)) rfl ?_
  exact ⟨rfl, HB3.out⟩
set_option maxHeartbeats 8000000 in
set_option maxRecDepth 100000 in
theorem take_yes {B : Nat} {w : World} {g : Nat} {v : Value} {S : Net} (h : NetAt B w g v S) (hgood : S.Good) (hlen : S.mail.length < 1000000) (which : Int) (hw : (Lit.int .i64 which).wf = true) (L : List Int) (hL : L = readyI S S.mail.length) (h0 : 0 < L.length) (i j : Nat) (hi : i = pickN which L.length) (hj : j = (L.getD i 0).toNat) :
    Calls Try.prog 13 #[.pointer (some ⟨g, 0, none⟩), .int .i64 which] w fun e w' => e = .returned (.tuple #[(told S (S.mail.getD j zeroMail)).val, .bool true]) ∧ ∃ v', NetAt B w' g v' { S with mail := S.mail.eraseIdx j } ∧ Kp B w g v w' v' := by
  have hu55 := Try.underlying55
  have hu29 := Try.underlying29
  obtain ⟨hp, hpl⟩ := pick_told which hw L.length h0
  rw [← hi] at hp hpl
  have hmem : rd L (i : Int) ∈ readyI S S.mail.length := by
    rw [← hL]
    unfold rd
    rw [Int.toNat_natCast, List.getD_eq_getElem?_getD, List.getElem?_eq_getElem hpl]
    exact List.getElem_mem hpl
  have hin := readyI_in S _ _ hmem
  have hrd : rd L (i : Int) = (j : Int) := by rw [hj]; unfold rd at hin ⊢; rw [Int.toNat_natCast] at hin ⊢; omega
  rw [hrd] at hin
  have hjl : j < S.mail.length := by omega
  obtain ⟨b, c, rfl⟩ := h.mailcell (by omega)
  obtain ⟨m, hm⟩ : ∃ m, m = S.mail.getD j zeroMail := ⟨_, rfl⟩
  rw [← hm]
  have HM := Aside0.mk hm
  have HN := Aside0.mk h
  have HBL := Aside0.mk (h.own_lt b rfl)
  have HL := Aside0.mk hlen
  have HGD := Aside0.mk hgood
  have HLL := Aside0.mk hL
  have HP := Aside0.mk hp
  have HPL := Aside0.mk hpl
  have HRD := Aside0.mk hrd
  have HJL := Aside0.mk hjl
  have HBG := Aside0.mk (show g ≠ b from fun e => h.ne (by rw [e]; rfl))
  have e0 : ((L.length : Int) == 0) = false := by rw [beq_eq_false_iff_ne]; omega
  have ew : wrap64 ((j : Int) + 1) = (j : Int) + 1 := by rw [wrap64]; omega
  have r0 : (0 : Int) ≤ (j : Int) := Int.natCast_nonneg _
  have r1 : (j : Int) < (S.mail.length : Int) := by omega
  have p1 : (0 : Int) ≤ (i : Int) := Int.natCast_nonneg _
  have q1 : (i : Int) < (L.length : Int) := by omega
  clear h hlen hgood h0 hi hj hL hp hpl hmem hin hrd hjl hm
  go_enter Try.func13, Try.ntmps13
  go_wp2_with (first
    | ((with_reducible refine gate_dst (N := 4) rfl ?_); refine box_event ?hg (N := 4) ?hd (cs := #[.int .i64 0, .int .i64 0, .int .i64 0, .string ⟨#[]⟩, .int .i64 0]) (t := 29) ?hr ?_; (case hd => rfl); (case hg => rfl); (case hr => first | (go_simp; done) | (go_simp; rfl)); intro gb hg w1 hbox hb; have HB1 := Aside0.mk hb; have HG1 := Aside0.mk hg; have HX1 := Aside0.mk hbox; have HN1 := Aside0.mk (HN.out.below hb); clear hbox hb hg)
    | (go_at_call 39; (with_reducible refine (ready_calls HN1.out HGD.out HL.out).mono ?_); rintro e w2 ⟨v9, rfl, ho, hb⟩; rw [← HLL.out] at ho; have HB2 := Aside0.mk (HB1.out.trans (hb.mono HB1.out.size)); have HX2 := Aside0.mk ((hb.block gb (blk_lt HX1.out)).trans HX1.out); have HN2 := Aside0.mk (HN1.out.below hb); obtain ⟨A9, c9, e9⟩ := Kd.R_slice ho; subst e9; obtain ⟨ad9, ea9, hx9⟩ := Kd.at_int (Kd.R_reads' ho).2.2 (i : Int) p1 q1; cases ea9; rw [HRD.out, Int.toNat_natCast] at hx9; have hc0 := HN2.out.cell0; have x0 := HN2.out.mailat j 0 HJL.out (by decide) (.int .i64 m.id) (by rw [HM.out]; rfl); rw [Nat.add_zero] at x0; have x1 := HN2.out.mailat j 1 HJL.out (by decide) (.int .i64 m.frm) (by rw [HM.out]; rfl); have x2 := HN2.out.mailat j 2 HJL.out (by decide) (.int .i64 m.to_) (by rw [HM.out]; rfl); have x3 := HN2.out.mailat j 3 HJL.out (by decide) (.string m.body) (by rw [HM.out]; rfl); have x4 := HN2.out.mailat j 4 HJL.out (by decide) (.int .i64 m.age) (by rw [HM.out]; rfl); clear ho hb)
    | (go_at_call 38; (with_reducible refine (net_pick.calls which _ _ _ HP.out).mono ?_); rintro e w' ⟨rfl, ⟨nd, rfl⟩⟩)
    | (go_at_call 40; (refine (told_calls (HN2.out.drewN nd) m).mono ?_); rintro e w3 ⟨he, hb⟩; obtain rfl : e = .returned (.agg #[.int .i64 (told S m).id, .int .i64 (told S m).frm, .int .i64 (told S m).to_, .string (told S m).body, .int .i64 (told S m).age]) := he; have HB3 := Aside0.mk (HB2.out.trans ((show Below w2.heap.size w2 w3 from (pw_below_drewN (Below.refl _ _) nd).trans hb).mono HB2.out.size)); have HN3 := Aside0.mk (HN2.out.below (show Below w2.heap.size w2 w3 from (pw_below_drewN (Below.refl _ _) nd).trans hb)); have HX3 := Aside0.mk ((hb.block gb (blk_lt HX2.out)).trans HX2.out); clear hb)
    | ((with_reducible refine gate_dst (N := 8) rfl ?_); refine box_event ?hg (N := 8) ?hd (cs := #[.int .i64 0, .int .i64 0, .int .i64 0, .string ⟨#[]⟩, .int .i64 0]) (t := 29) ?hr ?_; (case hd => rfl); (case hg => rfl); (case hr => first | (go_simp; done) | (go_simp; rfl)); intro gc hg w4 hbox hb; have HB4 := Aside0.mk (HB3.out.trans (hb.mono HB3.out.size)); have HG4 := Aside0.mk hg; have HY4 := Aside0.mk hbox; have HX4 := Aside0.mk ((hb.block gb (blk_lt HX3.out)).trans HX3.out); have HN4 := Aside0.mk (HN3.out.below hb); have HLT := Aside0.mk (show gb < gc by have h1 := blk_lt HX3.out; omega); clear hbox hb hg hc0 x0 x1 x2 x3 x4 hx9)
    | (refine store_box rfl (.tmp 8) (.tmp 33) rfl gc _ (by rfl) rfl (told S m) (by rfl) HY4.out ?_; intro w5 hx5 hfar5 hb5; have HY5 := Aside0.mk hx5; have HX5 := Aside0.mk ((hfar5 gb (Nat.ne_of_lt HLT.out)).trans HX4.out); have HN5 := Aside0.mk (HN4.out.keep hb5.size (hfar5 g (by have h1 := HN3.out.lt; have h2 := HG4.out; omega)) (fun k hk => hfar5 k (by have h1 := (HN3.out.own_lt k hk).2; have h2 := HG4.out; omega))); have HB5 := Aside0.mk (HB4.out.trans (hb5.mono (by have h1 := HB3.out.size; have h2 := HG4.out; omega))); have hc5 := HN5.out.cell0; clear hx5 hfar5 hb5)
    | (go_at_call 41; (refine (delete_net HN5.out j HJL.out).mono ?_); rintro e w6 ⟨rfl, hc6, hf6, hk6, hn6, hkp6⟩; clear hc5; have HN6 := Aside0.mk hn6; have HK6 := Aside0.mk hkp6; have hgcg : gc ≠ g := (by have h1 := HN3.out.lt; have h2 := HG4.out; omega); have HX6 := Aside0.mk (blk_far (p := ⟨g, 0, none⟩) ((hk6 gb (by have h1 := HBL.out.2; have h2 := HG1.out; omega)).trans HX5.out) (by have h1 := HN.out.lt; have h2 := HG1.out; show gb ≠ g; omega) (.slice (some ⟨b, 0, none⟩) (S.mail.length - 1) c)); have HY6 := Aside0.mk (blk_far (p := ⟨g, 0, none⟩) ((hk6 gc (by have h1 := HBL.out.2; have h2 := HG1.out; have h3 := HLT.out; omega)).trans HY5.out) hgcg (.slice (some ⟨b, 0, none⟩) (S.mail.length - 1) c)); have y0 := blk_cell HY6.out 0; have y1 := blk_cell HY6.out 1; have y2 := blk_cell HY6.out 2; have y3 := blk_cell HY6.out 3; have y4 := blk_cell HY6.out 4; simp only [mail_cells, List.getElem?_toArray, List.getElem?_cons_zero, List.getElem?_cons_succ] at y0 y1 y2 y3 y4; clear hk6 hn6 hkp6)
    | (refine store_box rfl (.tmp 4) (.tmp 45) rfl gb _ (by rfl) rfl (told S m) (by rfl) HX6.out ?_; intro w7 hx7 hfar7 hb7; have HX7 := Aside0.mk hx7; have HF7 := Aside0.mk hfar7; have HB7 := Aside0.mk hb7; clear hx7 hfar7 hb7))
  (try simp only [Act.put, List.setIfInBounds_toArray, List.set_cons_zero, List.set_cons_succ])

  go_wp2
  refine bodyPost_ret (results_ct rfl _ _ gb 29 (told S m).cells.toArray (0, 0) _ rfl HX7.out Try.underlying29 rfl (by kernel_rfl)) rfl ?_
  have hN7 := HN6.out.keep HB7.out.size (HF7.out g (by have h1 := HN.out.lt; have h2 := HG1.out; omega)) (fun k hk => HF7.out k (by have h1 : b = k := (by simpa [Value.ownBlock] using hk); have h2 := HBL.out.2; have h3 := HG1.out; omega))
  refine ⟨rfl, _, hN7, ?_⟩
  have hk := (Kp.of_below HN.out.base HB5.out).trans HK6.out
  refine ⟨hk.below.trans (HB7.out.mono (by have h1 := HN.out.base; have h2 := HG1.out; omega)), ⟨Nat.le_trans hk.keep.1 HB7.out.size, fun k h1 h2 h3 => (HF7.out k (by have h4 := HG1.out; omega)).trans (hk.keep.2 k h1 h2 h3)⟩, hk.own⟩
theorem take_calls {B : Nat} {w : World} {g : Nat} {v : Value} {S : Net} (h : NetAt B w g v S) (hgood : S.Good) (hlen : S.mail.length < 1000000) (which : Int) (hw : (Lit.int .i64 which).wf = true) :
    Calls Try.prog 13 #[.pointer (some ⟨g, 0, none⟩), .int .i64 which] w fun e w' => e = .returned (.tuple #[(takeF S which).1.val, .bool (takeF S which).2.1]) ∧ ∃ v', NetAt B w' g v' (takeF S which).2.2 ∧ Kp B w g v w' v' := by
  by_cases hc : (readyI S S.mail.length).length = 0
  · refine (take_no h hgood hlen which hc).mono fun e w' hh => ?_
    rw [takeF, if_pos hc]
    exact ⟨hh.1, v, h.below hh.2, Kp.of_below h.base hh.2⟩
  · refine (take_yes h hgood hlen which hw _ rfl (by omega) _ _ rfl rfl).mono fun e w' hh => ?_
    rw [takeF, if_neg hc]
    exact hh
end Go.Proofs.Ytnggcegfieeonaa.Nx
