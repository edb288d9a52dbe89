/- What is proved: that NetOnce answers true at every input. No condition. -/
import Derived.Test.YtnggcegfieeonaaNoncea
namespace Go.Proofs.Ytnggcegfieeonaa.Nx
open Go.RowKit Go.Proofs.YtnggcegfieeonaaW.PrintWords Go.Proofs.YtnggcegfieeonaaW.PrintLast Go.Proofs.YtnggcegfieeonaaW.PrintMore
open Go.Proofs.Ytnggcegfieeonaa.PNetFull
set_option linter.unusedVariables false
set_option linter.unusedSimpArgs false
theorem op_at {l : List OpR} {W : World} {A : Option Addr} (h : OpsIn W A l) (i : Nat) (hi : i < l.length) : ∃ ad, A = some ad ∧ W.cell? (ad.add (i * 4)) = some (.int .i64 (l.getD i zeroOp).kind) ∧ W.cell? ⟨(ad.add (i * 4)).block, (ad.add (i * 4)).off + 1, none⟩ = some (.int .i64 (l.getD i zeroOp).a) ∧ W.cell? ⟨(ad.add (i * 4)).block, (ad.add (i * 4)).off + 2, none⟩ = some (.int .i64 (l.getD i zeroOp).b) ∧ W.cell? ⟨(ad.add (i * 4)).block, (ad.add (i * 4)).off + 3, none⟩ = some (.string (l.getD i zeroOp).body) := by
  obtain ⟨ad, ea, hc⟩ := C_opat h.row i hi
  refine ⟨ad, ea, hc 0 _ rfl, ?_, ?_, ?_⟩
  · rw [← add_field ad (i * 4) 1 (by decide)]; exact hc 1 _ rfl
  · rw [← add_field ad (i * 4) 2 (by decide)]; exact hc 2 _ rfl
  · rw [← add_field ad (i * 4) 3 (by decide)]; exact hc 3 _ rfl
set_option maxHeartbeats 16000000 in
set_option maxRecDepth 100000 in
theorem NetOnce_walk (w : World) (A : Option Addr) (c : Nat) (l : List OpR) (hin : OpsIn w A l) (hc : l.length ≤ c) (A1 : Option Addr) (c1 : Nat) (pk : List Int) (hpk : Kd.C (Kd.int .i64) w A1 pk.length pk) (hc1 : pk.length ≤ c1) (hpw : ∀ x ∈ pk, (Lit.int .i64 x).wf = true) (p0 p1 : Int) :
    Calls Try.prog 4 #[.slice A l.length c, .slice A1 pk.length c1, .agg #[.int .i64 p0, .int .i64 p1]] w fun e w' => e = .returned (.bool true) ∧ Below w.heap.size w w' := by
  have HR := Aside0.mk hin
  have HC := Aside0.mk hc
  have HPK := Aside0.mk hpk
  have HC1 := Aside0.mk hc1
  have HPW := Aside0.mk hpw
  have hu29 := Try.underlying29
  have hu36 := Try.underlying36
  have hu38 := Try.underlying38
  have hz38 := zero38
  obtain ⟨n, hn⟩ : ∃ n, n = min 30 l.length := ⟨_, rfl⟩
  have HNN := Aside0.mk hn
  obtain ⟨a, ha⟩ : ∃ a, bits .and .i64 p0 3 = a := ⟨_, rfl⟩
  obtain ⟨b, hb⟩ : ∃ b, bits .and .i64 p1 3 = b := ⟨_, rfl⟩
  have HA := Aside0.mk (show 0 ≤ a ∧ a < 4 by rw [← ha]; exact and3_range p0)
  have HBB := Aside0.mk (show 0 ≤ b ∧ b < 4 by rw [← hb]; exact and3_range p1)
  clear hin hc hn hpk hc1 hpw
  go_enter Try.func4, Try.ntmps4
  go_upto_block 0 with (first
    | ((with_reducible refine gate_dst (N := 5) rfl ?_); refine box_event ?hg (N := 5) ?hd (cs := #[.int .i64 p0, .int .i64 p1]) (t := 36) ?hr ?_; (case hd => rfl); (case hg => rfl); (case hr => first | (go_simp; done) | (go_simp; rfl)); intro gp hg w0 hbox hb0; have HB0 := Aside0.mk hb0; have HX0 := Aside0.mk hbox; clear hbox hb0 hg)
    | (go_at_call 9; (with_reducible refine (awake_calls w0).mono ?_); rintro e w1 ⟨rfl, hb1⟩; have HB1 := Aside0.mk (HB0.out.trans (hb1.mono HB0.out.size)); have HX1 := Aside0.mk ((hb1.block gp (blk_lt HX0.out)).trans HX0.out); clear hb1)
    | (go_at_call 10; (with_reducible refine (new_calls w.heap.size w1 HB1.out.size).mono ?_); rintro e w2 ⟨g, rfl, hn, hb2, hg⟩; have HN2 := Aside0.mk hn; have HB2 := Aside0.mk (HB1.out.trans (hb2.mono HB1.out.size)); have HX2 := Aside0.mk ((hb2.block gp (blk_lt HX1.out)).trans HX1.out); have x0 := blk_cell HX2.out 0; have x1 := blk_cell HX2.out 1; simp only [List.getElem?_toArray, List.getElem?_cons_zero, List.getElem?_cons_succ] at x0 x1; clear hn hb2 hg)
    | (go_at_call 14; (with_reducible refine (part_calls HN2.out a b).mono ?_); rintro e w3 ⟨rfl, hn, hk⟩; have HN3 := Aside0.mk (show NetAt w.heap.size w3 g (.slice none 0 0) (onceS a b l 0).net from hn); have HB3 := Aside0.mk (HB2.out.trans hk.below); clear hn hk x0 x1))
  clear ha hb
  go_wp2
  go_loopg [11, 12, 13] n (fun kq v11 v12 v13 wr => ∃ (i : Nat) (vs : Value), v13 = .int .i64 (i : Int) ∧ Aside0 (kq + i = n) ∧ Aside0 (NetAt w.heap.size wr g vs (onceS a b l i).net) ∧ Aside0 (Kd.R kOp 38 wr w.heap.size (fun _ => True) v11 (onceS a b l i).sent) ∧ Aside0 (Kd.R (Kd.int .i64) 3 wr w.heap.size (fun _ => True) v12 (onceS a b l i).owed) ∧ Aside0 (Below w.heap.size w wr))
  case atStart => exact ⟨0, _, rfl, ⟨rfl⟩, HN3, ⟨Kd.R_nil _ _ _ _ _⟩, ⟨Kd.R_nil _ _ _ _ _⟩, HB3⟩
  case round =>
    obtain ⟨i, vs, rfl, HI, HN, HO, HS, HB⟩ := hrel
    have HRR := Aside0.mk (HR.out.below HB.out)
    go_upto_region 11 with (fail)
    go_cut [46] (fun v46 wc => v46 = .bool (decide (i < n)) ∧ Aside0 (wc = wr))
    case first =>
      have hdec : (decide ((i : Int) < (l.length : Int)) = false ∧ decide (i < l.length) = false ∧ decide (i < n) = false) ∨ (decide ((i : Int) < (l.length : Int)) = true ∧ decide (i < l.length) = true ∧ ((decide ((i : Int) < 30) = false ∧ decide (i < 30) = false ∧ decide (i < n) = false) ∨ (decide ((i : Int) < 30) = true ∧ decide (i < 30) = true ∧ decide (i < n) = true))) := by
        have h1 := HNN.out
        by_cases h : i < l.length
        · by_cases h2 : i < 30
          · exact .inr ⟨decide_eq_true (by omega), decide_eq_true h, .inr ⟨decide_eq_true (by omega), decide_eq_true h2, decide_eq_true (by omega)⟩⟩
          · exact .inr ⟨decide_eq_true (by omega), decide_eq_true h, .inl ⟨decide_eq_false (by omega), decide_eq_false h2, decide_eq_false (by omega)⟩⟩
        · exact .inl ⟨decide_eq_false (by omega), decide_eq_false h, decide_eq_false (by omega)⟩
      rcases hdec with ⟨d1, d2, d3⟩ | ⟨d1, d2, ⟨d3, d4, d5⟩ | ⟨d3, d4, d5⟩⟩
      · have HDE := Aside0.mk d3
        clear d3
        go_wp2
        go_meet
        case rel => exact ⟨by rw [HDE.out], ⟨rfl⟩⟩
      · have HDE := Aside0.mk d5
        clear d5
        go_wp2
        go_meet
        case rel => exact ⟨by rw [HDE.out], ⟨rfl⟩⟩
      · have HDE := Aside0.mk d5
        clear d5
        go_wp2
        go_meet
        case rel => exact ⟨by rw [HDE.out], ⟨rfl⟩⟩
    case rest =>
     obtain ⟨rfl, HWC⟩ := hcut
     obtain rfl := HWC.out
     by_cases hlt : i < n
     · rw [decide_eq_true hlt]
       have p1' : (0 : Int) ≤ (i : Int) := Int.natCast_nonneg _
       have q1' : (i : Int) < (l.length : Int) := by have h1 := HNN.out; omega
       obtain ⟨o, ho⟩ : ∃ o, o = l.getD i zeroOp := ⟨_, rfl⟩
       obtain ⟨ad, ea, hx0, hx1, hx2, hx3⟩ := op_at HRR.out i (by have h1 := HNN.out; omega)
       rw [← ho] at hx0 hx1 hx2 hx3
       have HLT := Aside0.mk hlt
       have HST := Aside0.mk (show onceS a b l (i + 1) = onceStep (onceS a b l i) o by rw [onceS, ho])
       have HOK := Aside0.mk (once_ok a b HA.out HBB.out l i (by have h1 := HNN.out; omega))
       have HOK2 := Aside0.mk (once_ok a b HA.out HBB.out l (i + 1) (by have h1 := HNN.out; omega))
       obtain ⟨st, hst⟩ : ∃ st, st = onceS a b l i := ⟨_, rfl⟩
       rw [← hst] at HN HO HS HST HOK
       subst ea
       clear ho hlt hst
       obtain ⟨x, hx⟩ : ∃ x, bits .and .i64 o.a 3 = x := ⟨_, rfl⟩
       obtain ⟨y, hy⟩ : ∃ y, bits .and .i64 o.b 3 = y := ⟨_, rfl⟩
       have HX := Aside0.mk (show and3 o.a = x from hx)
       have HY := Aside0.mk (show and3 o.b = y from hy)
       have HSH := Aside0.mk (show PNetPlays.heliographlaw14_short.f o.body 60 = some (cutTo o.body 60) from short_told o.body 60)
       have hxr := and3_range o.a
       have hyr := and3_range o.b
       rw [HX.out] at hxr
       rw [HY.out] at hyr
       have HSF := Aside0.mk (sendF_two st.net x y (cutTo o.body 60) hxr hyr (cutTo_size _ _) (by have h1 := HOK.out.len; have h2 := HLT.out; have h3 := HNN.out; omega))
       have ew : wrap64 ((i : Int) + 1) = ((i + 1 : Nat) : Int) := by have h1 := HLT.out; have h3 := HNN.out; rw [wrap64]; omega
       have HEW := Aside0.mk ew
       clear ew hxr hyr
       go_upto_region 14 with (first
         | ((with_reducible refine gate_dst (N := 14) rfl ?_); refine box_event ?hg (N := 14) ?hd (cs := #[.int .i64 0, .int .i64 0, .int .i64 0, .string ⟨#[]⟩]) (t := 38) ?hr ?_; (case hd => rfl); (case hg => rfl); (case hr => first | (go_simp; done) | (go_simp; rfl)); intro gb hg w4 hbox hb; have HX4 := Aside0.mk hbox; have HBX4 := Aside0.mk hb; have HG4 := Aside0.mk hg; clear hbox hb hg)
         | (refine store_op rfl (.tmp 14) (.tmp 52) rfl gb _ (by rfl) rfl o (by rfl) HX4.out ?_; intro w5 hx5 hfar5 hb5; have HX5 := Aside0.mk hx5; have HBX5 := Aside0.mk (HBX4.out.trans (hb5.mono (Nat.le_of_eq HG4.out.symm))); clear hx5 hfar5 hb5))
       (try simp only [Act.put, List.setIfInBounds_toArray, List.set_cons_zero, List.set_cons_succ])
       clear hx0 hx1 hx2 hx3
       have y0 := blk_cell HX5.out 0
       have y1 := blk_cell HX5.out 1
       have y2 := blk_cell HX5.out 2
       have y3 := blk_cell HX5.out 3
       have z1 := blk_frozen HX5.out 1
       have z2 := blk_frozen HX5.out 2
       have z3 := blk_frozen HX5.out 3
       simp only [op_cells, List.getElem?_toArray, List.getElem?_cons_zero, List.getElem?_cons_succ] at y0 y1 y2 y3
       go_upto_region 17 with (first
         | (go_at_call 15; ((with_reducible refine (PNetPlays.heliographlaw14_short.calls o.body 60 (cutTo o.body 60) _ HSH.out).mono ?_); rintro e w6 ⟨rfl, ⟨nd, rfl⟩⟩)))
       have HX6 := Aside0.mk (blk_set (blk_drewN (blk_set (blk_set HX5.out 1 (.int .i64 x)) 2 (.int .i64 y)) nd) 3 (.string (cutTo o.body 60)))
       have HBX6 := Aside0.mk ((pw_below_drewN ((HBX5.out.setCell (p := ⟨gb, 1, none⟩) (Nat.le_of_eq HG4.out.symm) (.int .i64 x)).setCell (p := ⟨gb, 2, none⟩) (Nat.le_of_eq HG4.out.symm) (.int .i64 y)) nd).setCell (p := ⟨gb, 3, none⟩) (Nat.le_of_eq HG4.out.symm) (.string (cutTo o.body 60)))
       rw [op_cells] at HX6
       simp only [List.setIfInBounds_toArray, List.set_cons_succ, List.set_cons_zero] at HX6
       clear y0 y1 y2 y3 z1 z2 z3
       generalize (((w5.setCell ⟨gb, 1, none⟩ (.int .i64 x)).setCell ⟨gb, 2, none⟩ (.int .i64 y)).drewN nd).setCell ⟨gb, 3, none⟩ (.string (cutTo o.body 60)) = w6 at HX6 HBX6 ⊢
       have HN6 := Aside0.mk (HN.out.below HBX6.out)
       have HO6 := Aside0.mk (Kd.R_below HO.out HBX6.out)
       have HS6 := Aside0.mk (Kd.R_below HS.out HBX6.out)
       have HB6 := Aside0.mk (HB.out.trans (HBX6.out.mono HB.out.size))
       have HF6 := Aside0.mk (HN.out.fresh (Nat.le_of_eq HG4.out.symm))
       have y0 := blk_cell HX6.out 0
       have y1 := blk_cell HX6.out 1
       have y2 := blk_cell HX6.out 2
       have y3 := blk_cell HX6.out 3
       simp only [List.getElem?_toArray, List.getElem?_cons_zero, List.getElem?_cons_succ] at y0 y1 y2 y3
       by_cases hxy : x = y
       · have HS1 := Aside0.mk (show onceS a b l (i + 1) = st by rw [HST.out, onceStep, if_pos (by rw [HX.out, HY.out]; exact hxy)])
         have HSG := HSF.out
         rw [if_pos hxy] at HSG
         have HSH2 := Aside0.mk HSG
         clear HSG
         subst hxy
         go_wp2_with (first
           | (go_at_call 11; ((with_reducible refine (send_calls HN6.out x x (cutTo o.body 60)).mono ?_); rintro e w7 hh; rw [HSH2.out] at hh; dsimp only at hh; obtain ⟨rfl, v7, hn7, hk7⟩ := hh; have HX7 := Aside0.mk (hk7.box HX6.out HF6.out.1 HF6.out.2); have HN7 := Aside0.mk hn7; have HO7 := Aside0.mk (R_kp HO6.out HN6.out hk7 (by decide)); have HS7 := Aside0.mk (R_kp HS6.out HN6.out hk7 (by decide)); have HB7 := Aside0.mk (HB6.out.trans hk7.below); clear hn7 hk7 y0 y1 y2 y3; have y0 := blk_cell HX7.out.1 0; have y1 := blk_cell HX7.out.1 1; have y2 := blk_cell HX7.out.1 2; simp only [List.getElem?_toArray, List.getElem?_cons_zero, List.getElem?_cons_succ] at y0 y1 y2)))
         go_roundg (gk - 1)
         case measure => have h1 := HI.out; have h2 := HLT.out; omega
         case rel => exact ⟨i + 1, v7, by have h := HEW.out; rw [h], ⟨by have h1 := HI.out; have h2 := HLT.out; omega⟩, ⟨by rw [HS1.out]; exact HN7.out⟩, ⟨by rw [HS1.out]; exact HO7.out⟩, ⟨by rw [HS1.out]; exact HS7.out⟩, HB7⟩
       · have HSG := HSF.out
         rw [if_neg hxy] at HSG
         obtain ⟨d, hd⟩ : ∃ d, d = wrap64 (st.net.last + 1) := ⟨_, rfl⟩
         obtain ⟨S', hS'⟩ : ∃ S' : Net, S' = { st.net with mail := st.net.mail ++ [⟨wrap64 (st.net.last + 1), x, y, cutTo o.body 60, st.net.now⟩], last := wrap64 (st.net.last + 1) } := ⟨_, rfl⟩
         obtain ⟨o', ho'⟩ : ∃ o' : OpR, o' = ⟨o.kind, x, y, cutTo o.body 60⟩ := ⟨_, rfl⟩
         have HOE := Aside0.mk (show onceOp o = o' by rw [ho', onceOp, HX.out, HY.out])
         have HOC := Aside0.mk (show o'.cells = [.int .i64 o.kind, .int .i64 x, .int .i64 y, .string (cutTo o.body 60)] by rw [ho']; rfl)
         obtain ⟨z, hz⟩ : ∃ z, z = st.net.mail.length + 1 := ⟨_, rfl⟩
         have HZ := Aside0.mk (show S'.mail.length = z by rw [hS', hz]; simp)
         have hz61 : z ≤ 61 := by have h1 := HOK.out.len; have h2 := HLT.out; have h3 := HNN.out; omega
         have hz1 : 1 ≤ z := by omega
         have e3 : decide (d < 1) = false := decide_eq_false (by have h1 := HOK.out.len; have h2 := HLT.out; have h3 := HNN.out; have h4 := HOK.out.last; rw [hd, h4]; unfold wrap64; omega)
         rw [← hS', ← hd] at HSG
         have HSH2 := Aside0.mk HSG
         have e1 : (x != y) = true := bne_iff_ne.2 hxy
         have HXY := Aside0.mk hxy
         obtain ⟨LO, hLO⟩ : ∃ LO, LO = st.owed.length := ⟨_, rfl⟩
         have HLO := Aside0.mk (show (st.owed ++ [1]).length = LO + 1 by rw [hLO]; simp)
         have HLO2 := Aside0.mk (show (st.owed ++ [1]).set LO 2 = st.owed ++ [2] by rw [hLO]; simp)
         have HLO3 := Aside0.mk (show (st.owed ++ [1]).getD LO 0 = (1 : Int) by rw [hLO]; simp)
         have hLO30 : LO ≤ 30 := by have h1 := HOK.out.slen; have h2 := HOK.out.olen; have h3 := HLT.out; have h4 := HNN.out; omega
         have HGN := Aside0.mk (show ∀ k, u11.ownBlock = some k → k < gb from fun k hk => by have h1 := Kd.R_lt HO.out k hk; have h2 := HG4.out; omega)
         have HD := Aside0.mk (double_last S' (by rw [HZ.out]; omega) (by rw [HZ.out]; omega))
         rw [HZ.out] at HD
         obtain ⟨S2, hS2⟩ : ∃ S2, S2 = putF S' (S'.mail.getD (z - 1) zeroMail) := ⟨_, rfl⟩
         rw [← hS2] at HD
         have HST2 := Aside0.mk (show onceS a b l (i + 1) = if Int.tmod o.kind 4 = 0 then ⟨S2, st.sent ++ [o'], st.owed ++ [2]⟩ else ⟨S', st.sent ++ [o'], st.owed ++ [1]⟩ by
           rw [HST.out, onceStep, if_neg (by rw [HX.out, HY.out]; exact HXY.out), HX.out, HY.out, HSH2.out]
           dsimp only
           rw [HZ.out, HD.out, HOE.out])
         clear HSG hd hS' hxy ho' hz hLO hS2
         by_cases hk4 : Int.tmod o.kind 4 = 0
         · have HS3 := HST2.out
           rw [if_pos hk4] at HS3
           have HS1 := Aside0.mk HS3
           have e4 : (Int.tmod o.kind 4 == 0) = true := beq_iff_eq.2 hk4
           clear HS3 hk4
           go_wp2_with (first
             | (go_at_call 11; ((with_reducible refine (send_calls HN6.out x y (cutTo o.body 60)).mono ?_); rintro e w7 hh; rw [HSH2.out] at hh; dsimp only at hh; obtain ⟨rfl, v7, hn7, hk7⟩ := hh; have HX7 := Aside0.mk (hk7.box HX6.out HF6.out.1 HF6.out.2).1; have HN7 := Aside0.mk hn7; have HO7 := Aside0.mk (R_kp HO6.out HN6.out hk7 (by decide)); have HS7 := Aside0.mk (R_kp HS6.out HN6.out hk7 (by decide)); have HB7 := Aside0.mk (HB6.out.trans hk7.below); clear hn7 hk7 y0 y1 y2 y3; have y0 := blk_cell HX7.out 0; have y1 := blk_cell HX7.out 1; have y2 := blk_cell HX7.out 2; have y3 := blk_cell HX7.out 3; simp only [List.getElem?_toArray, List.getElem?_cons_zero, List.getElem?_cons_succ] at y0 y1 y2 y3))
             | ((with_reducible refine gate_builtin (b := .append) (xs := #[.tmp 91, .tmp 93]) rfl ?_); at_builtin; refine Kd.R_append kOp (w0 := w) w.heap.size rfl (.tmp 91) (.tmp 93) 34 38 _ 40 rfl Try.underlying34 info38 rfl (by decide) (by omega) _ st.sent o' [.int .i64 o.kind, .int .i64 x, .int .i64 y, .string (cutTo o.body 60)] (fun _ => True) (fun _ => False) rfl rfl ?cP (fun _ hk => hk.elim) ?cF ?cO ?cB ?cS ?cL ?_; (case cP => exact HOC.out.symm); (case cB => exact HB7.out); (case cF => exact (fun _ _ => trivial)); (case cO => exact HO7.out); (case cS => exact HB7.out.size); (case cL => have h1 := HOK.out.slen; have h2 := HLT.out; have h3 := HNN.out; omega); intro v8 w8 ho hb hg hat; have HO8 := Aside0.mk ho; have HB8 := Aside0.mk hb; have HN8 := Aside0.mk (HN7.out.other hg (Kd.R_typed HO7.out) (by decide) (by decide)); have HS8 := Aside0.mk (Kd.R_over' HS7.out (Kd.R_typed HO7.out) (by decide) hg); have HX8 := Aside0.mk (blk_grown HX7.out hg (fun e => by have h1 := HGN.out gb e.symm; omega)); clear ho hb hg hat y0 y1 y2 y3)
             | ((with_reducible refine gate_builtin (b := .append) (xs := #[.tmp 95, .tmp 96]) rfl ?_); at_builtin; refine Kd.R_append (Kd.int .i64) (w0 := w) w.heap.size rfl (.tmp 95) (.tmp 96) 35 3 (.int .i64 0) 8 rfl Try.underlying35 info3 rfl (by decide) (by omega) _ st.owed 1 [.int .i64 1] (fun _ => True) (fun _ => False) rfl rfl ?dP (fun _ hk => hk.elim) ?dF ?dO ?dB ?dS ?dL ?_; (case dP => exact rfl); (case dB => exact HB8.out); (case dF => exact (fun _ _ => trivial)); (case dO => exact HS8.out); (case dS => exact HB8.out.size); (case dL => have h1 := HOK.out.slen; have h4 := HOK.out.olen; have h2 := HLT.out; have h3 := HNN.out; omega); intro v9 w9 ho hb hg hat; have HS9 := Aside0.mk ho; have HB9 := Aside0.mk hb; have HN9 := Aside0.mk (HN8.out.other hg (Kd.R_typed HS8.out) (by decide) (by decide)); have HO9 := Aside0.mk (Kd.R_over' HO8.out (Kd.R_typed HS8.out) (by decide) hg); have HX9 := Aside0.mk (blk_grown HX8.out hg (Kd.R_ne HS8.out HX8.out (by decide))); have y0 := blk_cell HX9.out 0; simp only [List.getElem?_toArray, List.getElem?_cons_zero, List.getElem?_cons_succ] at y0; obtain ⟨b12, c12, e12, hb12⟩ := R_plain HS9.out (by rw [HLO.out]; omega); rw [HLO.out] at e12; subst e12; clear ho hb hg hat hb12)
             | (go_at_call 16; (with_reducible refine (waits_calls HN9.out).mono ?_); rintro e w' hh; rw [HZ.out] at hh; obtain ⟨rfl, rfl⟩ := hh)
             | (go_at_call 12; ((with_reducible refine (double_calls HN9.out ((z : Int) - 1) (by go_wf)).mono ?_); rintro e w10 hh; rw [HD.out] at hh; dsimp only at hh; obtain ⟨rfl, v10, hn, hk⟩ := hh; have HN10 := Aside0.mk hn; have HB10 := Aside0.mk (HB9.out.trans hk.below); have HO10 := Aside0.mk (R_kp HO9.out HN9.out hk (by decide)); have HS10 := Aside0.mk (R_kp HS9.out HN9.out hk (by decide)); have hcz := R_intat HS10.out LO (by rw [HLO.out]; omega); rw [HLO3.out] at hcz; have hfz := R_intf HS10.out LO (by rw [HLO.out]; omega); clear hn hk y0)))
           have hput := R_intput HS10.out LO 2
           rw [HLO2.out] at hput
           have HN11 := Aside0.mk (HN10.out.other hput.2 (Kd.R_typed HS10.out) (by decide) (by decide))
           have HO11 := Aside0.mk (Kd.R_over' HO10.out (Kd.R_typed HS10.out) (by decide) hput.2)
           have HS11 := Aside0.mk hput.1
           have HB11 := Aside0.mk (HB10.out.setCell (p := ⟨b12, LO, none⟩) (Kd.R_base HS10.out b12 rfl) (.int .i64 2))
           clear hput hcz hfz
           go_roundg (gk - 1)
           case measure => have h1 := HI.out; have h2 := HLT.out; omega
           case rel => exact ⟨i + 1, v10, by have h := HEW.out; rw [h], ⟨by have h1 := HI.out; have h2 := HLT.out; omega⟩, ⟨by rw [HS1.out]; exact HN11.out⟩, ⟨by rw [HS1.out]; exact HO11.out⟩, ⟨by rw [HS1.out]; exact HS11.out⟩, HB11⟩
         · have HS3 := HST2.out
           rw [if_neg hk4] at HS3
           have HS1 := Aside0.mk HS3
           have e4 : (Int.tmod o.kind 4 == 0) = false := beq_eq_false_iff_ne.2 hk4
           clear HS3 hk4
           go_wp2_with (first
             | (go_at_call 11; ((with_reducible refine (send_calls HN6.out x y (cutTo o.body 60)).mono ?_); rintro e w7 hh; rw [HSH2.out] at hh; dsimp only at hh; obtain ⟨rfl, v7, hn7, hk7⟩ := hh; have HX7 := Aside0.mk (hk7.box HX6.out HF6.out.1 HF6.out.2).1; have HN7 := Aside0.mk hn7; have HO7 := Aside0.mk (R_kp HO6.out HN6.out hk7 (by decide)); have HS7 := Aside0.mk (R_kp HS6.out HN6.out hk7 (by decide)); have HB7 := Aside0.mk (HB6.out.trans hk7.below); clear hn7 hk7 y0 y1 y2 y3; have y0 := blk_cell HX7.out 0; have y1 := blk_cell HX7.out 1; have y2 := blk_cell HX7.out 2; have y3 := blk_cell HX7.out 3; simp only [List.getElem?_toArray, List.getElem?_cons_zero, List.getElem?_cons_succ] at y0 y1 y2 y3))
             | ((with_reducible refine gate_builtin (b := .append) (xs := #[.tmp 91, .tmp 93]) rfl ?_); at_builtin; refine Kd.R_append kOp (w0 := w) w.heap.size rfl (.tmp 91) (.tmp 93) 34 38 _ 40 rfl Try.underlying34 info38 rfl (by decide) (by omega) _ st.sent o' [.int .i64 o.kind, .int .i64 x, .int .i64 y, .string (cutTo o.body 60)] (fun _ => True) (fun _ => False) rfl rfl ?aP (fun _ hk => hk.elim) ?aF ?aO ?aB ?aS ?aL ?_; (case aP => exact HOC.out.symm); (case aB => exact HB7.out); (case aF => exact (fun _ _ => trivial)); (case aO => exact HO7.out); (case aS => exact HB7.out.size); (case aL => have h1 := HOK.out.slen; have h2 := HLT.out; have h3 := HNN.out; omega); intro v8 w8 ho hb hg hat; have HO8 := Aside0.mk ho; have HB8 := Aside0.mk hb; have HN8 := Aside0.mk (HN7.out.other hg (Kd.R_typed HO7.out) (by decide) (by decide)); have HS8 := Aside0.mk (Kd.R_over' HS7.out (Kd.R_typed HO7.out) (by decide) hg); have HX8 := Aside0.mk (blk_grown HX7.out hg (fun e => by have h1 := HGN.out gb e.symm; omega)); clear ho hb hg hat y0 y1 y2 y3)
             | ((with_reducible refine gate_builtin (b := .append) (xs := #[.tmp 95, .tmp 96]) rfl ?_); at_builtin; refine Kd.R_append (Kd.int .i64) (w0 := w) w.heap.size rfl (.tmp 95) (.tmp 96) 35 3 (.int .i64 0) 8 rfl Try.underlying35 info3 rfl (by decide) (by omega) _ st.owed 1 [.int .i64 1] (fun _ => True) (fun _ => False) rfl rfl ?bP (fun _ hk => hk.elim) ?bF ?bO ?bB ?bS ?bL ?_; (case bP => exact rfl); (case bB => exact HB8.out); (case bF => exact (fun _ _ => trivial)); (case bO => exact HS8.out); (case bS => exact HB8.out.size); (case bL => have h1 := HOK.out.slen; have h4 := HOK.out.olen; have h2 := HLT.out; have h3 := HNN.out; omega); intro v9 w9 ho hb hg hat; have HS9 := Aside0.mk ho; have HB9 := Aside0.mk hb; have HN9 := Aside0.mk (HN8.out.other hg (Kd.R_typed HS8.out) (by decide) (by decide)); have HO9 := Aside0.mk (Kd.R_over' HO8.out (Kd.R_typed HS8.out) (by decide) hg); have HX9 := Aside0.mk (blk_grown HX8.out hg (Kd.R_ne HS8.out HX8.out (by decide))); have y0 := blk_cell HX9.out 0; simp only [List.getElem?_toArray, List.getElem?_cons_zero, List.getElem?_cons_succ] at y0; clear ho hb hg hat))
           go_roundg (gk - 1)
           case measure => have h1 := HI.out; have h2 := HLT.out; omega
           case rel => exact ⟨i + 1, v7, by have h := HEW.out; rw [h], ⟨by have h1 := HI.out; have h2 := HLT.out; omega⟩, ⟨by rw [HS1.out]; exact HN9.out⟩, ⟨by rw [HS1.out]; exact HO9.out⟩, ⟨by rw [HS1.out]; exact HS9.out⟩, HB9⟩
     · rw [decide_eq_false hlt]
       obtain rfl : i = n := by have h1 := HI.out; omega
       have HI30 := Aside0.mk (show i ≤ 30 by have h1 := HNN.out; omega)
       have HOK := Aside0.mk (once_ok a b HA.out HBB.out l i HI30.out)
       obtain ⟨st, hst⟩ : ∃ st, st = onceS a b l i := ⟨_, rfl⟩
       rw [← hst] at HN HO HS HOK
       obtain ⟨A11, c11, e11⟩ := Kd.R_slice HO.out
       subst e11
       obtain ⟨A12, c12, e12⟩ := Kd.R_slice HS.out
       subst e12
       obtain ⟨LS, hLS⟩ : ∃ LS, LS = st.sent.length := ⟨_, rfl⟩
       rw [← hLS] at HO ⊢
       rw [← HOK.out.olen, ← hLS] at HS ⊢
       obtain ⟨total, htot⟩ : ∃ total, total = st.net.mail.length := ⟨_, rfl⟩
       have HTOT := Aside0.mk htot.symm
       have hT0 := take_start HOK.out HI30.out
       rw [← htot] at hT0
       have HT0 := Aside0.mk hT0
       have HLS := Aside0.mk hLS
       have HLS30 := Aside0.mk (show LS ≤ 30 by have h1 := HOK.out.slen; have h2 := HI30.out; omega)
       have htot60 : total ≤ 60 := hT0.small
       have hz9 := zero29
       clear hst hLS htot hT0 hlt
       go_wp2_with (first
         | (go_at_call 16; (with_reducible refine (waits_calls HN.out).mono ?_); rintro e w' hh; rw [HTOT.out] at hh; obtain ⟨rfl, rfl⟩ := hh))
       go_loopg [18] (total + 2) (fun kq v18 wl => ∃ (q : Nat) (S : Net) (owed : List Int) (hd : Bool) (vt : Value), v18 = .int .i64 (q : Int) ∧ Aside0 (kq + q = total + 2) ∧ Aside0 (TakeOk a b st.sent total S owed hd q) ∧ Aside0 (NetAt w.heap.size wl g vt S) ∧ Aside0 (Kd.R kOp 38 wl w.heap.size (fun _ => True) (.slice A11 LS c11) st.sent) ∧ Aside0 (Kd.R (Kd.int .i64) 3 wl w.heap.size (fun _ => True) (.slice A12 LS c12) owed) ∧ Aside0 (Below w.heap.size w wl))
       case atStart => exact ⟨0, st.net, st.owed, false, vs, rfl, ⟨rfl⟩, HT0, HN, HO, HS, HB⟩
       case round =>
         obtain ⟨q, S, owed, hd, vt, rfl, HQ, HT, HNq, HOq, HSq, HBq⟩ := hrel
         obtain ⟨ko, hko⟩ : ∃ k, k = gk := ⟨gk, rfl⟩
         have HKO := Aside0.mk hko
         clear hko
         have hq := take_less HT.out
         have hq0 : (0 : Int) ≤ (q : Int) := Int.natCast_nonneg _
         have g1 : decide ((q : Int) < (total : Int) + 2) = true := decide_eq_true (by omega)
         have g2 : decide (q < total + 2) = true := decide_eq_true hq
         have HQT := Aside0.mk hq
         obtain ⟨p, hp⟩ : ∃ p, p = if q < pk.length then pk.getD q 0 else 0 := ⟨_, rfl⟩
         have HPW2 := Aside0.mk (show (Lit.int .i64 p).wf = true by
           rw [hp]
           split
           · rename_i h
             rw [List.getD_eq_getElem?_getD, List.getElem?_eq_getElem h]
             exact HPW.out _ (List.getElem_mem h)
           · rfl)
         have HP := Aside0.mk hp
         have HGD := Aside0.mk HT.out.good
         have HLN := Aside0.mk (show S.mail.length < 1000000 by have h1 := take_len HT.out; omega)
         have HQE := Aside0.mk (show wrap64 ((q : Int) + 1) = ((q + 1 : Nat) : Int) by rw [wrap64]; omega)
         clear hp hq
         go_upto_if 130 with (fail)
         go_cut [19] (fun v19 wc => v19 = .int .i64 p ∧ Aside0 (wc = wr))
         case first =>
           by_cases hq2 : q < pk.length
           · have k1 : decide ((q : Int) < (pk.length : Int)) = true := decide_eq_true (by omega)
             have k2 : decide (q < pk.length) = true := decide_eq_true hq2
             have k3 : (q : Int) < (pk.length : Int) := by omega
             obtain ⟨adp, eap, hxp⟩ := Kd.at_int (Kd.C_below HPK.out HBq.out) (q : Int) hq0 k3
             have hpe := HP.out
             rw [if_pos hq2] at hpe
             rw [show rd pk (q : Int) = p by rw [hpe]; unfold rd; rw [Int.toNat_natCast], Int.toNat_natCast] at hxp
             subst eap
             clear hpe hq2
             go_wp2
             go_meet
             case rel => exact ⟨rfl, ⟨rfl⟩⟩
           · have k1 : decide ((q : Int) < (pk.length : Int)) = false := decide_eq_false (by omega)
             have k2 : decide (q < pk.length) = false := decide_eq_false hq2
             have hpe := HP.out
             rw [if_neg hq2] at hpe
             have HPE := Aside0.mk hpe
             clear hpe hq2
             (first | rw [k2] | rw [k1])
             go_wp2
             go_meet
             case rel => exact ⟨by rw [HPE.out], ⟨rfl⟩⟩
         case rest =>
           obtain ⟨rfl, HWC⟩ := hcut
           obtain rfl := HWC.out
           by_cases hf : S.mail.filter (opn S.P) = []
           · have HF0 := Aside0.mk hf
             have HTN := Aside0.mk (takeF_no S p hf)
             clear hf
             go_upto_region 36 with (first
               | (go_at_call 13; ((with_reducible refine (take_calls HNq.out HGD.out HLN.out p HPW2.out).mono ?_); rintro e w8 hh; rw [HTN.out] at hh; dsimp only at hh; obtain ⟨he, v8, hn8, hk8⟩ := hh; obtain rfl : e = .returned (.tuple #[.agg #[.int .i64 0, .int .i64 0, .int .i64 0, .string ⟨#[]⟩, .int .i64 0], .bool false]) := he; have HN8 := Aside0.mk hn8; have HO8 := Aside0.mk (R_kp HOq.out HNq.out hk8 (by decide)); have HS8 := Aside0.mk (R_kp HSq.out HNq.out hk8 (by decide)); have HB8 := Aside0.mk (HBq.out.trans hk8.below); clear hn8 hk8))
               | ((with_reducible refine gate_dst (N := 20) rfl ?_); refine box_event ?hg (N := 20) ?hd (cs := #[.int .i64 0, .int .i64 0, .int .i64 0, .string ⟨#[]⟩, .int .i64 0]) (t := 29) ?hr ?_; (case hd => rfl); (case hg => rfl); (case hr => first | (go_simp; done) | (go_simp; rfl)); intro gb hg w9 hbox hb; have HX9 := Aside0.mk hbox; have HBX9 := Aside0.mk hb; have HG9 := Aside0.mk hg; clear hbox hb hg)
               | (refine store_box rfl (.tmp 20) (.tmp 139) rfl gb _ (by rfl) rfl zeroMail (by rfl) HX9.out ?_; intro w10 hx10 hfar10 hb10; have HBX10 := Aside0.mk (HBX9.out.trans (hb10.mono (Nat.le_of_eq HG9.out.symm))); clear hx10 hfar10 hb10))
             (try simp only [Act.put, List.setIfInBounds_toArray, List.set_cons_zero, List.set_cons_succ])
             have HN10 := Aside0.mk (HN8.out.below HBX10.out)
             have HO10 := Aside0.mk (Kd.R_below HO8.out HBX10.out)
             have HS10 := Aside0.mk (Kd.R_below HS8.out HBX10.out)
             have HB10 := Aside0.mk (HB8.out.trans (HBX10.out.mono HB8.out.size))
             by_cases hh : a ≠ b ∧ hd = false
             · have e1 : (a != b) = true := bne_iff_ne.2 hh.1
               have HPF := Aside0.mk (show partF S a b = true by rw [take_part HT.out HA.out HBB.out hh.1, hh.2]; rfl)
               have HT2 := Aside0.mk (take_heal HT.out hh.2)
               clear hh
               go_wp2_with (first
                 | (go_at_call 17; ((with_reducible refine (parted_any HN10.out a b).mono ?_); rintro e w' hh; rw [HPF.out] at hh; obtain ⟨rfl, ⟨nd, rfl⟩⟩ := hh))
                 | (go_at_call 18; ((with_reducible refine (heal_calls (HN10.out.drewN nd)).mono ?_); rintro e w11 ⟨rfl, hn, hk⟩; have HN11 := Aside0.mk hn; have HO11 := Aside0.mk (R_kp (Kd.R_drewN HO10.out nd) (HN10.out.drewN nd) hk (by decide)); have HS11 := Aside0.mk (R_kp (Kd.R_drewN HS10.out nd) (HN10.out.drewN nd) hk (by decide)); have HB11 := Aside0.mk ((pw_below_drewN HB10.out nd).trans hk.below); clear hn hk)))
               go_roundg (gk - 1)
               case measure => have h1 := HQ.out; have h2 := HQT.out; omega
               case rel => exact ⟨q + 1, _, owed, true, _, by have h := HQE.out; rw [h], ⟨by have h1 := HQ.out; have h2 := HQT.out; omega⟩, HT2, HN11, HO11, HS11, HB11⟩
             · go_cut [151] (fun v151 wc => v151 = .bool false ∧ Aside0 (Drawn0 w10 wc))
               case first =>
                 by_cases hab : a = b
                 · have e1 : (a != b) = false := by rw [hab]; simp
                   clear hab
                   go_wp2
                   go_meet
                   case rel => exact ⟨rfl, ⟨Drawn0.refl _⟩⟩
                 · have e1 : (a != b) = true := bne_iff_ne.2 hab
                   have HPF := Aside0.mk (show partF S a b = false by rw [take_part HT.out HA.out HBB.out hab]; cases hd with | true => rfl | false => exact absurd ⟨hab, rfl⟩ hh)
                   clear hab
                   go_wp2_with (first
                     | (go_at_call 17; ((with_reducible refine (parted_any HN10.out a b).mono ?_); rintro e w' hh; rw [HPF.out] at hh; obtain ⟨rfl, ⟨nd, rfl⟩⟩ := hh)))
                   go_meet
                   case rel => exact ⟨rfl, ⟨⟨nd, rfl⟩⟩⟩
               case rest =>
                 obtain ⟨rfl, HDR⟩ := hcut
                 obtain ⟨nd, rfl⟩ := HDR.out.out
                 have HME := Aside0.mk (take_empty HT.out HA.out HBB.out HF0.out (by by_cases hab : a = b; exact .inl hab; exact .inr (by cases hd with | true => rfl | false => exact absurd ⟨hab, rfl⟩ hh)))
                 have HZ := Aside0.mk (take_done HT.out HME.out)
                 have HOLE := Aside0.mk (show owed.length = LS by have h1 := HT.out.olen; have h2 := HLS.out; omega)
                 have HML := Aside0.mk (show S.mail.length = 0 by rw [HME.out]; rfl)
                 clear hh
                 go_wp2
                 go_loopg [24] LS (fun kq v24 wl => ∃ k : Nat, v24 = .int .i64 (k : Int) ∧ Aside0 (kq + k = LS) ∧ Aside0 (Drawn0 w10 wl))
                 case atStart => exact ⟨0, rfl, ⟨rfl⟩, ⟨⟨_, rfl⟩⟩⟩
                 case round =>
                   obtain ⟨k, rfl, HK, HDR2⟩ := hrel
                   obtain ⟨nd2, rfl⟩ := HDR2.out.out
                   by_cases hlt : k < LS
                   · have k1 : decide ((k : Int) < (LS : Int)) = true := decide_eq_true (by omega)
                     have k2 : decide (k < LS) = true := decide_eq_true hlt
                     have k3 : (0 : Int) ≤ (k : Int) := Int.natCast_nonneg _
                     have k4 : (k : Int) < (LS : Int) := by omega
                     obtain ⟨b12, cc12, e12, _⟩ := R_plain HS10.out (by rw [HOLE.out]; omega)
                     injection e12 with e121 e122 e123
                     subst e121
                     have x0 := R_intat HS10.out k (by rw [HOLE.out]; exact hlt)
                     rw [HZ.out k (by rw [HOLE.out]; exact hlt)] at x0
                     have HLT := Aside0.mk hlt
                     clear hlt e122 e123
                     go_wp2
                     go_roundg (gk - 1)
                     case measure => have h1 := HK.out; have h2 := HLT.out; omega
                     case rel => exact ⟨k + 1, by have h3 := HLS30.out; have h2 := HLT.out; rw [show wrap64 ((k : Int) + 1) = ((k + 1 : Nat) : Int) by rw [wrap64]; omega], ⟨by have h1 := HK.out; have h2 := HLT.out; omega⟩, ⟨⟨_, rfl⟩⟩⟩
                   · obtain rfl : k = LS := by have h1 := HK.out; omega
                     have k1 : decide ((k : Int) < (k : Int)) = false := decide_eq_false (by omega)
                     have k2 : decide (k < k) = false := decide_eq_false (by omega)
                     clear hlt
                     go_wp2_with (first
                       | (go_at_call 16; (with_reducible refine (waits_calls (HN10.out.drewN nd2)).mono ?_); rintro e w' hh; rw [HML.out] at hh; obtain ⟨rfl, rfl⟩ := hh))
                     go_ret
                     exact ⟨rfl, pw_below_drewN HB10.out nd2⟩
           · obtain ⟨jj, m, hjl, hjm, htk, hpm, _, _⟩ := takeF_yes S p HPW2.out (by cases hc : S.mail.filter (opn S.P) with | nil => exact absurd hc hf | cons _ _ => simp)
             have hmo := (mem_opn hpm).2
             have HPF := Aside0.mk (took_open hmo)
             obtain ⟨hfound, htc⟩ := take_came HT.out jj m hjm
             obtain ⟨m0, hm0⟩ : ∃ m0, m0 = told S m := ⟨_, rfl⟩
             obtain ⟨S', hS'⟩ : ∃ S' : Net, S' = { S with mail := S.mail.eraseIdx jj } := ⟨_, rfl⟩
             rw [← hm0, ← hS'] at htk
             rw [← hS'] at htc
             rw [← HLS.out] at hfound htc
             have HTK := Aside0.mk htk
             have HFD := Aside0.mk hfound
             have HTC := Aside0.mk htc
             have HM1 := Aside0.mk (show m0.frm = m.frm by rw [hm0]; rfl)
             have HM2 := Aside0.mk (show m0.to_ = m.to_ by rw [hm0]; rfl)
             have HM3 := Aside0.mk (show m0.body = m.body by rw [hm0]; rfl)
             have HPF' := Aside0.mk (show partF S' m.frm m.to_ = false by rw [hS']; exact HPF.out)
             clear hf hjl hjm htk hpm hmo hfound htc hm0 hS'
             go_upto_region 38 with (first
               | (go_at_call 13; ((with_reducible refine (take_calls HNq.out HGD.out HLN.out p HPW2.out).mono ?_); rintro e w8 hh; rw [HTK.out] at hh; dsimp only at hh; obtain ⟨he, v8, hn8, hk8⟩ := hh; obtain rfl : e = .returned (.tuple #[.agg #[.int .i64 m0.id, .int .i64 m0.frm, .int .i64 m0.to_, .string m0.body, .int .i64 m0.age], .bool true]) := he; have HN8 := Aside0.mk hn8; have HO8 := Aside0.mk (R_kp HOq.out HNq.out hk8 (by decide)); have HS8 := Aside0.mk (R_kp HSq.out HNq.out hk8 (by decide)); have HB8 := Aside0.mk (HBq.out.trans hk8.below); clear hn8 hk8))
               | ((with_reducible refine gate_dst (N := 20) rfl ?_); refine box_event ?hg (N := 20) ?hd (cs := #[.int .i64 0, .int .i64 0, .int .i64 0, .string ⟨#[]⟩, .int .i64 0]) (t := 29) ?hr ?_; (case hd => rfl); (case hg => rfl); (case hr => first | (go_simp; done) | (go_simp; rfl)); intro gb hg w9 hbox hb; have HX9 := Aside0.mk hbox; have HBX9 := Aside0.mk hb; have HG9 := Aside0.mk hg; clear hbox hb hg)
               | (refine store_box rfl (.tmp 20) (.tmp 139) rfl gb _ (by rfl) rfl m0 (by rfl) HX9.out ?_; intro w10 hx10 hfar10 hb10; have HX10 := Aside0.mk hx10; have HBX10 := Aside0.mk (HBX9.out.trans (hb10.mono (Nat.le_of_eq HG9.out.symm))); clear hx10 hfar10 hb10))
             (try simp only [Act.put, List.setIfInBounds_toArray, List.set_cons_zero, List.set_cons_succ])
             have HN10 := Aside0.mk (HN8.out.below HBX10.out)
             have HO10 := Aside0.mk (Kd.R_below HO8.out HBX10.out)
             have HS10 := Aside0.mk (Kd.R_below HS8.out HBX10.out)
             have HB10 := Aside0.mk (HB8.out.trans (HBX10.out.mono HB8.out.size))
             have y1 := blk_cell HX10.out 1
             have y2 := blk_cell HX10.out 2
             simp only [mail_cells, List.getElem?_toArray, List.getElem?_cons_zero, List.getElem?_cons_succ] at y1 y2
             rw [HM1.out] at y1
             rw [HM2.out] at y2
             go_wp2_with (first
               | (go_at_call 17; ((with_reducible refine (parted_any HN10.out m.frm m.to_).mono ?_); rintro e w' hh; rw [HPF'.out] at hh; obtain ⟨rfl, ⟨nd, rfl⟩⟩ := hh)))
             clear y1 y2
             go_loopg [22, 23] LS (fun kq v22 v23 wl => ∃ k : Nat, v23 = .int .i64 (k : Int) ∧ v22 = .bool (scanF st.sent owed m k).1 ∧ Aside0 (kq + k = LS) ∧ Aside0 (NetAt w.heap.size wl g v8 S') ∧ Aside0 (Kd.R kOp 38 wl w.heap.size (fun _ => True) (.slice A11 LS c11) st.sent) ∧ Aside0 (Kd.R (Kd.int .i64) 3 wl w.heap.size (fun _ => True) (.slice A12 LS c12) (scanF st.sent owed m k).2) ∧ Aside0 (wl.heap[gb]? = some (.cells m0.cells.toArray 29 (0, 0))) ∧ Aside0 (Below w.heap.size w wl))
             case atStart => exact ⟨0, rfl, rfl, ⟨rfl⟩, ⟨HN10.out.drewN nd⟩, ⟨Kd.R_drewN HO10.out nd⟩, ⟨Kd.R_drewN HS10.out nd⟩, HX10, ⟨pw_below_drewN HB10.out nd⟩⟩
             case round =>
               obtain ⟨k, rfl, rfl, HK, HNk, HOk, HSk, HXk, HBk⟩ := hrel
               by_cases hlt : k < LS
               · have k1 : decide ((k : Int) < (LS : Int)) = true := decide_eq_true (by omega)
                 have k2 : decide (k < LS) = true := decide_eq_true hlt
                 have k3 : (0 : Int) ≤ (k : Int) := Int.natCast_nonneg _
                 have k4 : (k : Int) < (LS : Int) := by omega
                 have HSC := Aside0.mk (show scanF st.sent owed m (k + 1) = if (!(scanF st.sent owed m k).1 && hit ((scanF st.sent owed m k).2.getD k 0) (st.sent.getD k zeroOp) m) = true then (true, (scanF st.sent owed m k).2.set k ((scanF st.sent owed m k).2.getD k 0 - 1)) else scanF st.sent owed m k from rfl)
                 have HSL := Aside0.mk (show (scanF st.sent owed m k).2.length = LS by
                   have h1 := HT.out.olen
                   have h2 := HLS.out
                   rcases scan_facts st.sent owed m k with ⟨_, e, _⟩ | ⟨_, j, _, _, e⟩
                   · rw [e]; omega
                   · rw [e, List.length_set]; omega)
                 have HRG := Aside0.mk (show -1000 ≤ (scanF st.sent owed m k).2.getD k 0 ∧ (scanF st.sent owed m k).2.getD k 0 ≤ 1000 by
                   have h1 : ∀ (ws : List Int), (∀ x ∈ ws, -1000 ≤ x ∧ x ≤ 1000) → ∀ j, -1000 ≤ ws.getD j 0 ∧ ws.getD j 0 ≤ 1000 := fun ws hws j => by
                     rw [List.getD_eq_getElem?_getD]
                     cases e : ws[j]? with
                     | none => exact ⟨by decide, by decide⟩
                     | some x => exact hws x (List.mem_of_getElem? e)
                   refine h1 _ (fun x hx => ?_) k
                   rcases scan_facts st.sent owed m k with ⟨_, e, _⟩ | ⟨_, j, _, hh, e⟩
                   · rw [e] at hx
                     have := HT.out.rng x hx
                     omega
                   · rw [e] at hx
                     rcases List.mem_or_eq_of_mem_set hx with hx | hx
                     · have := HT.out.rng x hx
                       omega
                     · have h2 : 0 < owed.getD j 0 := ((hit_iff _ _ _).1 hh).1
                       have h3 : owed.getD j 0 ≤ 2 := by
                         rw [List.getD_eq_getElem?_getD] at h2 ⊢
                         cases e2 : owed[j]? with
                         | none => rw [e2] at h2; simp at h2
                         | some y => exact (HT.out.rng y (List.mem_of_getElem? e2)).2
                       omega)
                 obtain ⟨f, hfe⟩ : ∃ f, f = (scanF st.sent owed m k).1 := ⟨_, rfl⟩
                 obtain ⟨ow, hoe⟩ : ∃ ow, ow = (scanF st.sent owed m k).2 := ⟨_, rfl⟩
                 obtain ⟨wv, hwv⟩ : ∃ wv, wv = ow.getD k 0 := ⟨_, rfl⟩
                 obtain ⟨oo, hoo⟩ : ∃ oo, oo = st.sent.getD k zeroOp := ⟨_, rfl⟩
                 rw [← hfe, ← hoe, ← hwv, ← hoo] at HSC
                 rw [← hoe] at HSL HSk
                 rw [← hoe, ← hwv] at HRG
                 rw [← hfe]
                 have HSE := Aside0.mk (show scanF st.sent owed m k = (f, ow) by rw [hfe, hoe])
                 obtain ⟨b12, cc12, e12, _⟩ := R_plain HSk.out (by rw [HSL.out]; omega)
                 injection e12 with e121 e122 e123
                 subst e121
                 obtain ⟨b11, cc11, e11, _⟩ := R_plain HOk.out (by rw [← HLS.out]; omega)
                 injection e11 with e111 e112 e113
                 subst e111
                 have xo := R_intat HSk.out k (by rw [HSL.out]; exact hlt)
                 rw [← hwv] at xo
                 obtain ⟨ad, eadd, hcs⟩ := C_opat (Kd.R_reads' HOk.out).2.2 k (by rw [← HLS.out]; exact hlt)
                 injection eadd with eadd
                 subst eadd
                 rw [← hoo] at hcs
                 have x1 := hcs 1 _ rfl
                 have x2 := hcs 2 _ rfl
                 have x3 := hcs 3 _ rfl
                 rw [add_plain] at x1 x2 x3
                 have y1 := blk_cell HXk.out 1
                 have y2 := blk_cell HXk.out 2
                 have y3 := blk_cell HXk.out 3
                 simp only [mail_cells, List.getElem?_toArray, List.getElem?_cons_zero, List.getElem?_cons_succ] at y1 y2 y3
                 rw [HM1.out] at y1
                 rw [HM2.out] at y2
                 rw [HM3.out] at y3
                 have HLT := Aside0.mk hlt
                 have HBE := Aside0.mk (show (Value.slice (some ⟨b12, 0, none⟩) LS c12).ownBlock = some b12 from rfl)
                 clear hlt hfe hoe hwv hoo e112 e113 e122 e123 hcs
                 go_upto_region 44 with (fail)
                 go_cut [204] (fun v204 wc => v204 = .bool (!f && hit wv oo m) ∧ Aside0 (Drawn0 wr wc))
                 case first =>
                   cases f with
                   | true =>
                     go_quiet (fail)
                     all_goals
                       go_wp2
                       go_meet
                       case rel => exact ⟨rfl, ⟨⟨_, rfl⟩⟩⟩
                   | false =>
                     have HHT := Aside0.mk (show (!false && hit wv oo m) = (decide (0 < wv) && (oo.a == m.frm && (oo.b == m.to_ && oo.body.toList == m.body.toList))) from rfl)
                     have hdec : decide (0 < wv) = false ∨ (decide (0 < wv) = true ∧ (oo.a == m.frm) = false) ∨ (decide (0 < wv) = true ∧ (oo.a == m.frm) = true ∧ (oo.b == m.to_) = false) ∨ (decide (0 < wv) = true ∧ (oo.a == m.frm) = true ∧ (oo.b == m.to_) = true ∧ (oo.body.toList == m.body.toList) = false) ∨ (decide (0 < wv) = true ∧ (oo.a == m.frm) = true ∧ (oo.b == m.to_) = true ∧ (oo.body.toList == m.body.toList) = true) := by
                       cases decide (0 < wv) <;> cases (oo.a == m.frm) <;> cases (oo.b == m.to_) <;> cases (oo.body.toList == m.body.toList) <;> simp
                     rcases hdec with h1 | ⟨h1, h2⟩ | ⟨h1, h2, h3⟩ | ⟨h1, h2, h3, h4⟩ | ⟨h1, h2, h3, h4⟩
                     all_goals
                       have HHU := Aside0.mk HHT.out
                       (try rw [h1] at HHU); (try rw [h2] at HHU); (try rw [h3] at HHU); (try rw [h4] at HHU)
                       go_quiet (fail)
                       all_goals
                         go_wp2
                         go_meet
                         case rel => exact ⟨by rw [HHU.out]; simp, ⟨⟨_, rfl⟩⟩⟩
                 case rest =>
                   obtain ⟨rfl, HDR⟩ := hcut
                   obtain ⟨nd3, rfl⟩ := HDR.out.out
                   clear x1 x2 x3 y1 y2 y3
                   have HNd := Aside0.mk (HNk.out.drewN nd3)
                   have HOd := Aside0.mk (Kd.R_drewN HOk.out nd3)
                   have HSd := Aside0.mk (Kd.R_drewN HSk.out nd3)
                   have HXd := Aside0.mk (blk_drewN HXk.out nd3)
                   have HBd := Aside0.mk (pw_below_drewN HBk.out nd3)
                   have HKE := Aside0.mk (show wrap64 ((k : Int) + 1) = ((k + 1 : Nat) : Int) by have h3 := HLS30.out; have h2 := HLT.out; rw [wrap64]; omega)
                   by_cases hh : (!f && hit wv oo m) = true
                   · have HS1 := Aside0.mk (show scanF st.sent owed m (k + 1) = (true, ow.set k (wv - 1)) by rw [HSC.out, if_pos hh])
                     rw [hh]
                     clear hh
                     obtain ⟨hr1, hr2⟩ := HRG.out
                     have xf := R_intf HSk.out k (by rw [HSL.out]; exact HLT.out)
                     go_wp2
                     have hput := R_intput HSd.out k (wv - 1)
                     have HNe := Aside0.mk (HNd.out.other hput.2 (Kd.R_typed HSd.out) (by decide) (by decide))
                     have HOe := Aside0.mk (Kd.R_over' HOd.out (Kd.R_typed HSd.out) (by decide) hput.2)
                     have HSe := Aside0.mk hput.1
                     have HXe := Aside0.mk (blk_grown HXd.out hput.2 (Kd.R_ne HSd.out HXd.out (by decide)))
                     have HBe := Aside0.mk (HBd.out.setCell (p := ⟨b12, k, none⟩) (Kd.R_base HSd.out b12 rfl) (.int .i64 (wv - 1)))
                     clear hput xo xf
                     go_roundg (gk - 1)
                     case measure => have h1 := HK.out; have h2 := HLT.out; omega
                     case rel => exact ⟨k + 1, by have h := HKE.out; rw [h], by rw [HS1.out], ⟨by have h1 := HK.out; have h2 := HLT.out; omega⟩, HNe, HOe, ⟨by rw [HS1.out]; exact HSe.out⟩, HXe, HBe⟩
                   · have HS1 := Aside0.mk (show scanF st.sent owed m (k + 1) = (f, ow) by rw [HSC.out, if_neg hh, HSE.out])
                     rw [Bool.not_eq_true] at hh
                     rw [hh]
                     clear hh xo
                     go_wp2
                     go_roundg (gk - 1)
                     case measure => have h1 := HK.out; have h2 := HLT.out; omega
                     case rel => exact ⟨k + 1, by have h := HKE.out; rw [h], by rw [HS1.out], ⟨by have h1 := HK.out; have h2 := HLT.out; omega⟩, HNd, HOd, ⟨by rw [HS1.out]; exact HSd.out⟩, HXd, HBd⟩
               · obtain rfl : k = LS := by have h1 := HK.out; omega
                 have k1 : decide ((k : Int) < (k : Int)) = false := decide_eq_false (by omega)
                 have k2 : decide (k < k) = false := decide_eq_false (by omega)
                 rw [HFD.out]
                 clear hlt
                 go_wp2
                 go_roundg (ko - 1)
                 case measure => have h1 := HQ.out; have h2 := HQT.out; have h3 := HKO.out; omega
                 case rel => exact ⟨q + 1, _, _, hd, _, by have h := HQE.out; rw [h], ⟨by have h1 := HQ.out; have h2 := HQT.out; have h3 := HKO.out; omega⟩, HTC, HNk, HOk, HSk, HBk⟩

theorem NetOnce_all (W : World) (A : Option Addr) (c : Nat) (l : List OpR) (hr : OpsIn W A l) (hc : l.length ≤ c) (A1 : Option Addr) (c1 : Nat) (pk : List Int) (hpk : Kd.C (Kd.int .i64) W A1 pk.length pk) (hc1 : pk.length ≤ c1) (hpw : ∀ x ∈ pk, (Lit.int .i64 x).wf = true) (x : Int) (wx : (Lit.int .i64 x).wf = true) (y : Int) (wy : (Lit.int .i64 y).wf = true) :
    Calls Try.prog 4 #[.slice A l.length c, .slice A1 pk.length c1, .agg #[.int .i64 x, .int .i64 y]] W fun e w' => e = .returned (.bool true) ∧ Below W.heap.size W w' := NetOnce_walk W A c l hr hc A1 c1 pk hpk hc1 hpw x y
end Go.Proofs.Ytnggcegfieeonaa.Nx
