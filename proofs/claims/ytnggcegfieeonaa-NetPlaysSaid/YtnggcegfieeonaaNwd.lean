/- What is proved: what the network's methods ready and Ready come to. No condition but what each theorem says. -/
import Derived.Test.YtnggcegfieeonaaNwc
namespace Go.Proofs.Ytnggcegfieeonaa.Nx
open Go.RowKit Go.Proofs.YtnggcegfieeonaaW.PrintWords Go.Proofs.YtnggcegfieeonaaW.PrintLast Go.Proofs.YtnggcegfieeonaaW.PrintMore
open Go.Proofs.Ytnggcegfieeonaa.PNetFull
set_option linter.unusedVariables false
set_option linter.unusedSimpArgs false
/-- A message whose ends are ends. -/
def Mail.ok (m : Mail) : Prop := 0 ≤ m.frm ∧ m.frm < 64 ∧ 0 ≤ m.to_ ∧ m.to_ < 64
def Net.Good (S : Net) : Prop := ∀ m ∈ S.mail, m.ok
def key (m : Mail) : Nat := m.frm.toNat * 64 + m.to_.toNat
def zeroMail : Mail := ⟨0, 0, 0, ⟨#[]⟩, 0⟩
/-- The places of those of the first i that may come. -/
def readyI (S : Net) : Nat → List Int
  | 0 => []
  | i + 1 => if S.P (key (S.mail.getD i zeroMail)) = true then readyI S i else readyI S i ++ [(i : Int)]
theorem readyI_len (S : Net) (i : Nat) : (readyI S i).length ≤ i := by
  induction i with
  | zero => exact Nat.le_refl _
  | succ i ih =>
    rw [readyI]
    split
    · omega
    · rw [List.length_append, List.length_singleton]; omega
theorem info3 : (Try.prog.info? 3).map (fun i => (i.zero, i.size, i.bytes)) = some (some (.int .i64 0), 1, 8) := by kernel_rfl
theorem NetAt.mailcell {B : Nat} {w : World} {g : Nat} {v : Value} {S : Net} (h : NetAt B w g v S) (h0 : 0 < S.mail.length) : ∃ b c, v = .slice (some ⟨b, 0, none⟩) S.mail.length c :=
  match h.own.2 with
  | .inl ⟨_, e⟩ => by omega
  | .inr ⟨b, c, _, e, _⟩ => ⟨b, c, e⟩
theorem NetAt.mailat {B : Nat} {w : World} {g b n c : Nat} {S : Net} (h : NetAt B w g (.slice (some ⟨b, 0, none⟩) n c) S) (i j : Nat) (hi : i < S.mail.length) (hj : j < 5) (u : Value) (hu : ((S.mail.getD i zeroMail).cells)[j]? = some u) : w.cell? ⟨b, i * 5 + j, none⟩ = some u := by
  rcases h.own.2 with ⟨_, e⟩ | ⟨b', c', cur, e, h1, h2, h3, h4, h5, h6⟩
  · omega
  · injection e with e1 e2 e3
    injection e1 with e1
    injection e1 with e1
    subst e1
    rw [cell_of_row w b (i * 5 + j) cur 29 (0, 0) h2]
    have h7 : (cur.toList.take (S.mail.length * 5))[i * 5 + j]? = (vals S.mail)[i * 5 + j]? := by rw [h6]
    rw [List.getElem?_take, if_pos (by omega), vals_at _ i j hi hj, Array.getElem?_toList] at h7
    rw [h7, ← hu, List.getD_eq_getElem?_getD, List.getElem?_eq_getElem hi]
    rfl
set_option maxHeartbeats 8000000 in
set_option maxRecDepth 100000 in
theorem ready_calls {B : Nat} {w : World} {g : Nat} {v : Value} {S : Net} (h : NetAt B w g v S) (hgood : S.Good) (hlen : S.mail.length < 1000000) :
    Calls Try.prog 39 #[.pointer (some ⟨g, 0, none⟩)] w fun e w' => ∃ v0, e = .returned v0 ∧ Kd.R (Kd.int .i64) 3 w' w.heap.size (fun _ => True) v0 (readyI S S.mail.length) ∧ Below w.heap.size w w' := by
  have hu55 := Try.underlying55
  have hu53 := Try.underlying53
  have hu52 := Try.underlying52
  have hu29 := Try.underlying29
  have hc0 := h.cell0
  obtain ⟨A, c, rfl, _, _⟩ := h.slice
  have HN := Aside0.mk h
  have HL := Aside0.mk hlen
  have HGD := Aside0.mk hgood
  clear h hlen hgood
  go_enter Try.func39, Try.ntmps39
  go_wp2_with fail
  go_step3
  go_wp2
  (try (go_step3; go_wp2))
  clear hc0
  go_loopg [3, 11] S.mail.length (fun kq v3 v11 wr => ∃ i : Nat, v11 = .int .i64 (i : Int) ∧ Aside0 (kq + i = S.mail.length) ∧ Aside0 (Kd.R (Kd.int .i64) 3 wr w.heap.size (fun _ => True) v3 (readyI S i)) ∧ Aside0 (Below w.heap.size w wr))
  case atStart => exact ⟨0, rfl, ⟨rfl⟩, ⟨Kd.R_nil _ _ _ _ _⟩, ⟨Below.refl _ _⟩⟩
  case round =>
    obtain ⟨i, rfl, HI, HO, HB⟩ := hrel
    have HN2 := Aside0.mk (HN.out.below HB.out)
    by_cases hlt : i < S.mail.length
    · have f1 : decide ((i : Int) < (S.mail.length : Int)) = true := decide_eq_true (by omega)
      obtain ⟨b, c2, ev⟩ := HN.out.mailcell (by omega)
      injection ev with ev1 ev2 ev3
      subst ev1
      subst ev3
      obtain ⟨m, hm⟩ : ∃ m, m = S.mail.getD i zeroMail := ⟨_, rfl⟩
      have x0 := HN2.out.mailat i 0 hlt (by decide) (.int .i64 m.id) (by rw [hm]; rfl)
      rw [Nat.add_zero] at x0
      have x1 := HN2.out.mailat i 1 hlt (by decide) (.int .i64 m.frm) (by rw [hm]; rfl)
      have x2 := HN2.out.mailat i 2 hlt (by decide) (.int .i64 m.to_) (by rw [hm]; rfl)
      have x3 := HN2.out.mailat i 3 hlt (by decide) (.string m.body) (by rw [hm]; rfl)
      have x4 := HN2.out.mailat i 4 hlt (by decide) (.int .i64 m.age) (by rw [hm]; rfl)
      have q0 : (0 : Int) ≤ (i : Int) := Int.natCast_nonneg _
      have q1 : (i : Int) < (S.mail.length : Int) := by omega
      have HM := Aside0.mk hm
      have HLT := Aside0.mk hlt
      clear hm hlt
      obtain ⟨hm0, hm1, hm2, hm3⟩ : m.ok := HGD.out m (by rw [HM.out, List.getD_eq_getElem?_getD, List.getElem?_eq_getElem HLT.out]; exact List.getElem_mem HLT.out)
      obtain ⟨f, hf⟩ : ∃ f : Nat, m.frm = (f : Int) := ⟨m.frm.toNat, by omega⟩
      obtain ⟨t, ht⟩ : ∃ t : Nat, m.to_ = (t : Int) := ⟨m.to_.toNat, by omega⟩
      have hf64 : f < 64 := by omega
      have ht64 : t < 64 := by omega
      have HK := Aside0.mk (show key m = f * 64 + t by unfold key; rw [hf, ht, Int.toNat_natCast, Int.toNat_natCast])
      clear hm0 hm1 hm2 hm3
      have r0 : (0 : Int) ≤ (f : Int) := Int.natCast_nonneg _
      have r1 : (f : Int) < 64 := by omega
      have r2 : (0 : Int) ≤ (t : Int) := Int.natCast_nonneg _
      have r3 : (t : Int) < 64 := by omega
      rw [hf] at x1
      rw [ht] at x2
      have HF := Aside0.mk hf
      have HT := Aside0.mk ht
      clear hf ht
      go_upto_region 5 with (first
        | ((with_reducible refine gate_dst (N := 5) rfl ?_); refine box_event ?hg (N := 5) ?hd (cs := #[.int .i64 0, .int .i64 0, .int .i64 0, .string ⟨#[]⟩, .int .i64 0]) (t := 29) ?hr ?_; (case hd => rfl); (case hg => rfl); (case hr => first | (go_simp; done) | (go_simp; rfl)); intro gb hg w1 hbox hb; have HB1 := Aside0.mk hb; have HG1 := Aside0.mk hg; have HX1 := Aside0.mk hbox; clear hbox hb hg)
        | (refine store_box rfl (.tmp 5) (.tmp 15) rfl gb _ (by rfl) rfl ⟨m.id, (f : Int), (t : Int), m.body, m.age⟩ (by rfl) HX1.out ?_; intro w2 hx2 hfar2 hb2; have HX2 := Aside0.mk hx2; have HB2 := Aside0.mk (HB1.out.trans (hb2.mono (Nat.le_of_eq HG1.out.symm))); clear hx2 hfar2 hb2))
      have HN3 := Aside0.mk (HN2.out.below HB2.out)
      clear x0 x1 x2 x3 x4
      (try simp only [Act.put, List.setIfInBounds_toArray, List.set_cons_zero, List.set_cons_succ])
      go_cut [25] (fun v25 wc => v25 = .bool (S.P (f * 64 + t)) ∧ Aside0 (Drawn0 w2 wc))
      case first =>
        have y1 := blk_cell HX2.out 1
        have y2 := blk_cell HX2.out 2
        have y3 := HN3.out.cellP f t hf64 ht64
        simp only [mail_cells, List.getElem?_toArray, List.getElem?_cons_zero, List.getElem?_cons_succ] at y1 y2
        go_region
        all_goals
          go_wp2
          go_meet
          case rel => exact ⟨rfl, ⟨⟨1, rfl⟩⟩⟩
      case rest =>
        obtain ⟨rfl, ⟨⟨nd, rfl⟩⟩⟩ := hcut
        have HB4 := Aside0.mk ((HB.out.trans (HB2.out.mono HB.out.size)).trans ((pw_below_drewN (Below.refl w2.heap.size w2) nd).mono (Nat.le_trans HB.out.size HB2.out.size)))
        have ew : wrap64 ((i : Int) + 1) = ((i + 1 : Nat) : Int) := by have := HL.out; have := HLT.out; rw [wrap64]; omega
        have HO4 := Aside0.mk (Kd.R_below HO.out (HB2.out.trans ((pw_below_drewN (Below.refl w2.heap.size w2) nd).mono HB2.out.size)))
        by_cases hP : S.P (f * 64 + t) = true
        · rw [hP]
          have HI2 := Aside0.mk (show readyI S (i + 1) = readyI S i by rw [readyI, ← HM.out, HK.out, if_pos hP])
          clear hP
          go_wp2
          go_roundg (gk - 1)
          case measure => have := HI.out; have := HLT.out; omega
          case rel => exact ⟨i + 1, by go_num, ⟨by have := HI.out; have := HLT.out; omega⟩, ⟨by rw [HI2.out]; exact HO4.out⟩, HB4⟩
        · rw [Bool.not_eq_true] at hP
          rw [hP]
          have HI2 := Aside0.mk (show readyI S (i + 1) = readyI S i ++ [(i : Int)] by rw [readyI, ← HM.out, HK.out, if_neg (by rw [hP]; simp)])
          clear hP
          go_wp2_with (first
            | ((with_reducible refine gate_builtin (b := .append) (xs := #[.tmp 26, .tmp 28]) rfl ?_); at_builtin; refine Kd.R_append (Kd.int .i64) (w0 := w) w.heap.size rfl (.tmp 26) (.tmp 28) 35 3 (.int .i64 0) 8 rfl Try.underlying35 info3 rfl (by decide) (by omega) _ (readyI S i) (i : Int) [.int .i64 (i : Int)] (fun _ => True) (fun _ => False) rfl rfl ?aP (fun _ hk => hk.elim) ?aF ?aO ?aB ?aS ?aL ?_; (case aP => exact rfl); (case aB => exact (by repeat (first | exact HB4.out | apply below_alloc | apply pw_below_drewN | apply below_drew1))); (case aF => exact (fun _ _ => trivial)); (case aO => exact (by (with_reducible repeat (first | apply Kd.R_alloc | apply Kd.R_drewN | apply Kd.R_drew)); exact HO4.out)); (case aS => exact (below_size (by repeat (first | exact HB4.out | apply below_alloc | apply pw_below_drewN | apply below_drew1)))); (case aL => have := readyI_len S i; have := HL.out; have := HLT.out; omega); intro v391 w18 ho hb hg hat; have HO5 := Aside0.mk ho; have HB5 := Aside0.mk hb; clear ho hb hg hat))
          go_roundg (gk - 1)
          case measure => have := HI.out; have := HLT.out; omega
          case rel => exact ⟨i + 1, by go_num, ⟨by have := HI.out; have := HLT.out; omega⟩, ⟨by rw [HI2.out]; exact HO5.out⟩, HB5⟩
    · have f1 : decide ((i : Int) < (S.mail.length : Int)) = false := decide_eq_false (by omega)
      obtain rfl : i = S.mail.length := by have := HI.out; omega
      go_wp2
      (try rw [Exit.noGoto_ret])
      go_ret
      exact ⟨_, rfl, HO.out, HB.out⟩
end Go.Proofs.Ytnggcegfieeonaa.Nx
