/- What is proved: what NetPlays does behind its switch: the two lists of what is ready are compared. No condition but what each theorem says. -/
import Derived.Test.YtnggcegfieeonaaPmc
import Derived.Test.YtnggcegfieeonaaNoncea
import Derived.Deep.RegionHeld3
namespace Go.Proofs.Ytnggcegfieeonaa.Nx
open Go.RowKit Go.Proofs.YtnggcegfieeonaaW.PrintWords Go.Proofs.YtnggcegfieeonaaW.PrintLast Go.Proofs.YtnggcegfieeonaaW.PrintMore
open Go.Proofs.Ytnggcegfieeonaa.PNetPlays
set_option linter.unusedVariables false
set_option linter.unusedSimpArgs false
/-- What a round has at its end. -/
structure Done (B : Nat) (w0 w : World) (g r i : Nat) : Prop where
  mk :: (out : ∃ S R v vr ur, Both B w g v S r vr ur R ∧ Agree S R (i + 1) ∧ Below B w0 w)
/-- A block of a code, by its number. -/
def findB (k : Nat) : Code → Option Code
  | .block n c => if n = k then some c else findB k c
  | .seq a b => match findB k a with
    | some c => some c
    | none => findB k b
  | .cond _ a b => match findB k a with
    | some c => some c
    | none => findB k b
  | .loop c => findB k c
  | .scope c => findB k c
  | _ => none
/-- What lies behind the first n. -/
def rights : Nat → Code → Code
  | 0, c => c
  | n + 1, .seq _ b => rights n b
  | _, c => c
noncomputable def tailCode : Code := rights 5 ((Try.f7.body.bind (findB 1)).getD .skip)
set_option maxHeartbeats 16000000 in
set_option maxRecDepth 1000000 in
theorem tail_walk (w wa : World) (g r gb i : Nat) (o : OpR) (HH : Aside0 (Half w.heap.size w wa g r gb i o)) (HI : Aside0 (i < 100))
    (c0 c1 c2 c3 c6 c8 c10 c11 c12 c13 c14 c15 c16 c17 c18 c19 c20 c21 c22 c23 c24 c25 c26 c27 c28 c29 c30 c31 c32 c33 c34 c35 c36 c37 c38 c39 c40 c41 c42 c43 c44 c45 c46 c47 c48 c49 c50 c51 c52 c53 c54 c55 c56 c57 c58 c59 c60 c61 c62 c63 c64 c65 c66 c67 c68 c69 c70 c71 c72 c73 c74 c75 c76 c77 c78 c79 c80 c81 c82 c83 c84 c85 c86 c87 c88 c89 c90 c91 c92 c93 c94 c95 c96 c97 c98 c99 c100 c101 c102 c103 c104 c105 c106 c107 c108 c109 c110 c111 c112 c113 c114 c115 c116 c117 c118 c119 c120 c121 c122 c123 c124 c125 c126 c127 c128 c129 c130 c131 c132 c133 c134 c135 c136 c137 c138 c139 c140 c141 c142 c143 c144 c145 c146 c147 c148 c149 c150 c151 c152 c153 c154 c155 c156 c157 c158 c159 c160 c161 c162 c163 c164 c165 c166 c167 c168 c169 c170 c171 c172 c173 c174 c175 c176 c177 c178 c179 c180 c181 c182 c183 c184 c185 c186 c187 c188 c189 c190 c191 c192 c193 c194 c195 c196 c197 c198 c199 c200 c201 c202 c203 c204 c205 c206 c207 c208 c209 c210 c211 c212 c213 c214 c215 c216 c217 c218 c219 c220 c221 c222 c223 c224 c225 c226 c227 c228 c229 c230 c231 c232 c233 c234 c235 c236 c237 c238 c239 c240 c241 c242 c243 : Value) (K : Act → World → Prop) (HKA : Aside0 (∀ (d2 d19 d20 d21 d183 d184 d185 d186 d187 d188 d189 d190 d191 d192 d193 d194 d195 d196 d197 d198 d199 d200 d201 d202 d203 d204 d205 d206 d207 d208 d209 d210 d211 d212 d213 d214 d215 d216 d217 d218 d219 d220 d221 d222 d223 d224 d225 d226 d227 d228 d229 d230 d231 d232 d233 d234 d235 d236 d237 d238 d239 d240 d241 d242 : Value) (w' : World), Done w.heap.size w w' g r i → K ⟨#[c0, c1, d2, c3, .pointer (some ⟨g, 0, none⟩), .pointer (some ⟨r, 0, none⟩), c6, .pointer (some ⟨gb, 0, none⟩), c8, .bool true, c10, c11, c12, c13, c14, c15, c16, c17, c18, d19, d20, d21, c22, c23, c24, c25, c26, c27, c28, c29, c30, c31, c32, c33, c34, c35, c36, c37, c38, c39, c40, c41, c42, c43, c44, c45, c46, c47, c48, c49, c50, c51, c52, c53, c54, c55, c56, c57, c58, c59, c60, c61, c62, c63, c64, c65, c66, c67, c68, c69, c70, c71, c72, c73, c74, c75, c76, c77, c78, c79, c80, c81, c82, c83, c84, c85, c86, c87, c88, c89, c90, c91, c92, c93, c94, c95, c96, c97, c98, c99, c100, c101, c102, c103, c104, c105, c106, c107, c108, c109, c110, c111, c112, c113, c114, c115, c116, c117, c118, c119, c120, c121, c122, c123, c124, c125, c126, c127, c128, c129, c130, c131, c132, c133, c134, c135, c136, c137, c138, c139, c140, c141, c142, c143, c144, c145, c146, c147, c148, c149, c150, c151, c152, c153, c154, c155, c156, c157, c158, c159, c160, c161, c162, c163, c164, c165, c166, c167, c168, c169, c170, c171, c172, c173, c174, c175, c176, c177, c178, c179, c180, c181, c182, d183, d184, d185, d186, d187, d188, d189, d190, d191, d192, d193, d194, d195, d196, d197, d198, d199, d200, d201, d202, d203, d204, d205, d206, d207, d208, d209, d210, d211, d212, d213, d214, d215, d216, d217, d218, d219, d220, d221, d222, d223, d224, d225, d226, d227, d228, d229, d230, d231, d232, d233, d234, d235, d236, d237, d238, d239, d240, d241, d242, c243], []⟩ w')) :
    Code.wp Try.prog tailCode (Exit.then K (fun _ _ _ => False)) ⟨#[c0, c1, c2, c3, .pointer (some ⟨g, 0, none⟩), .pointer (some ⟨r, 0, none⟩), c6, .pointer (some ⟨gb, 0, none⟩), c8, .bool true, c10, c11, c12, c13, c14, c15, c16, c17, c18, c19, c20, c21, c22, c23, c24, c25, c26, c27, c28, c29, c30, c31, c32, c33, c34, c35, c36, c37, c38, c39, c40, c41, c42, c43, c44, c45, c46, c47, c48, c49, c50, c51, c52, c53, c54, c55, c56, c57, c58, c59, c60, c61, c62, c63, c64, c65, c66, c67, c68, c69, c70, c71, c72, c73, c74, c75, c76, c77, c78, c79, c80, c81, c82, c83, c84, c85, c86, c87, c88, c89, c90, c91, c92, c93, c94, c95, c96, c97, c98, c99, c100, c101, c102, c103, c104, c105, c106, c107, c108, c109, c110, c111, c112, c113, c114, c115, c116, c117, c118, c119, c120, c121, c122, c123, c124, c125, c126, c127, c128, c129, c130, c131, c132, c133, c134, c135, c136, c137, c138, c139, c140, c141, c142, c143, c144, c145, c146, c147, c148, c149, c150, c151, c152, c153, c154, c155, c156, c157, c158, c159, c160, c161, c162, c163, c164, c165, c166, c167, c168, c169, c170, c171, c172, c173, c174, c175, c176, c177, c178, c179, c180, c181, c182, c183, c184, c185, c186, c187, c188, c189, c190, c191, c192, c193, c194, c195, c196, c197, c198, c199, c200, c201, c202, c203, c204, c205, c206, c207, c208, c209, c210, c211, c212, c213, c214, c215, c216, c217, c218, c219, c220, c221, c222, c223, c224, c225, c226, c227, c228, c229, c230, c231, c232, c233, c234, c235, c236, c237, c238, c239, c240, c241, c242, c243], []⟩ wa := by
  have hu29 := Try.underlying29
  have hu38 := Try.underlying38
  have hu49 := Try.underlying49
  obtain ⟨S, R, v, vr, ur, h1, h2, h3, h4⟩ := HH.out.out
  obtain ⟨A0, q0, e0⟩ := Kd.R_slice h1.ref.own
  subst e0
  obtain ⟨M, hM⟩ : ∃ M, rReady R = M := ⟨_, rfl⟩
  obtain ⟨N, hN⟩ : ∃ N, M.length = N := ⟨_, rfl⟩
  obtain ⟨L, hL⟩ : ∃ L, R.mail.length = L := ⟨_, rfl⟩
  obtain ⟨q, hq⟩ : ∃ q, rOldI R.mail L = q := ⟨_, rfl⟩
  obtain ⟨p, hp⟩ : ∃ p, rIs R o.a o.b = p := ⟨_, rfl⟩
  have HRS := Aside0.mk ((ready_same h2).trans hM)
  have HRM := Aside0.mk hM
  have HNN := Aside0.mk hN
  have HRL := Aside0.mk hL
  have HLL := Aside0.mk (h2.rlen.symm.trans hL)
  have HQ := Aside0.mk hq
  have HP := Aside0.mk hp
  have HOQ := Aside0.mk (show oldF S = q by rw [old_same h2 (by have h := HI.out; omega), hL]; exact hq)
  have HPP := Aside0.mk (show partF S o.a o.b = p from (h2.is_ o.a o.b).symm.trans hp)
  have HLM := Aside0.mk (show S.mail.length < 1000000 by have h5 := h2.len; have h6 := HI.out; omega)
  have HLR := Aside0.mk (show R.mail.length < 1000000 by have h5 := h2.len; have h6 := HI.out; have h7 := h2.rlen; omega)
  have HLP := Aside0.mk (show R.prs.length < 1000000 by have h5 := h2.prs; have h6 := HI.out; omega)
  have HML := Aside0.mk (show N < 1000000 by have h5 := readyI_len S S.mail.length; rw [← hN, ← (ready_same h2).trans hM, readyM, List.length_map]; exact Nat.lt_of_le_of_lt h5 HLM.out)
  have HBO := Aside0.mk h1
  have HAG := Aside0.mk h2
  have HX := Aside0.mk h3
  have HB := Aside0.mk h4
  clear h1 h2 h3 h4 hM hN hL hq hp HH
  conv => arg 2; whnf
  go_upto_region 42 with (first
    | (go_at_call 21; ((refine (Ready_calls HBO.out.net HAG.out.good HLM.out).mono ?_); rintro e w1 ⟨v0, rfl, hr, hb⟩; rw [HRS.out] at hr; obtain ⟨A1, q1, e1⟩ := Kd.R_slice hr; subst e1; have HBO1 := Aside0.mk (HBO.out.below hb); have HX1 := Aside0.mk (blk_below HX.out hb); have HB1 := Aside0.mk (HB.out.trans (hb.mono HB.out.size)); have HR1 := Aside0.mk hr; clear hr hb))
    | (go_at_call 33; ((refine (rReady_calls HBO1.out.ref HLP.out HLR.out).mono ?_); rintro e w2 ⟨v0, rfl, hr, hb⟩; rw [HRM.out] at hr; obtain ⟨A2, q2, e1⟩ := Kd.R_slice hr; subst e1; have HBO2 := Aside0.mk (HBO1.out.below hb); have HX2 := Aside0.mk (blk_below HX1.out hb); have HB2 := Aside0.mk (HB1.out.trans (hb.mono HB1.out.size)); have HR12 := Aside0.mk (Kd.R_below HR1.out hb); have HR2 := Aside0.mk hr; clear hr hb)))
  rw [HNN.out]
  go_cut [227] from 187 to 227 (fun v227 wx => v227 = .bool false ∧ Aside0 (Below w2.heap.size w2 wx))
  case first =>
    have a0 := HBO2.out.ref.cell0
    have a1 := blk_cell HX2.out 1
    have a2 := blk_cell HX2.out 2
    simp only [op_cells, List.getElem?_toArray, List.getElem?_cons_zero, List.getElem?_cons_succ] at a1 a2
    rw [HRL.out] at a0
    have n1 : ((N : Int) != (N : Int)) = false := by simp
    have n2 : ((L : Int) != (L : Int)) = false := by simp
    have n3 : (q != q) = false := by simp
    have n4 : (p != p) = false := by simp
    go_region_held3 (fun W => W.cell? ⟨r, 0, none⟩ = some (.slice A0 L q0) ∧ W.cell? ⟨gb, 1, none⟩ = some (.int .i64 o.a) ∧ W.cell? ⟨gb, 2, none⟩ = some (.int .i64 o.b))
      (first | (exact ⟨a0, a1, a2⟩) | go_keep)
      (first
        | (go_at_call 16; ((refine (waits_calls (HBO2.out.drewN 1).net).mono ?_); rintro e w6 ⟨rfl, rfl⟩; rw [HLL.out]))
        | (go_at_call 22; ((refine (oldest_any (HBO2.out.drewN 1).net HLM.out).mono ?_); rintro e w5 ⟨rfl, hb⟩; rw [HOQ.out]; have HBO5 := Aside0.mk ((HBO2.out.drewN 1).below hb); have HX5 := Aside0.mk (blk_below (show w2.drew.heap[gb]? = some (.cells o.cells.toArray 38 (0, 0)) from HX2.out) hb); have HB5 := Aside0.mk ((Below.drew (Below.refl w2.heap.size w2)).trans hb); clear hb; have a0 := HBO5.out.ref.cell0; have a1 := blk_cell HX5.out 1; have a2 := blk_cell HX5.out 2; simp only [op_cells, List.getElem?_toArray, List.getElem?_cons_zero, List.getElem?_cons_succ] at a1 a2; rw [HRL.out] at a0))
        | (go_at_call 34; ((refine (rOldest_calls HBO5.out.ref HLR.out).mono ?_); rintro e w6 ⟨rfl, rfl⟩; rw [HRL.out, HQ.out]))
        | (go_at_call 17; ((refine (parted_any HBO5.out.net o.a o.b).mono ?_); rintro e w6 hh; rw [HPP.out] at hh; obtain ⟨rfl, ⟨nd, rfl⟩⟩ := hh; have HBO6 := Aside0.mk (HBO5.out.drewN nd); have HX6 := Aside0.mk (blk_drewN HX5.out nd); have HB6 := Aside0.mk (pw_below_drewN HB5.out nd); have a0 := HBO6.out.ref.cell0; have a1 := blk_cell HX6.out 1; have a2 := blk_cell HX6.out 2; simp only [op_cells, List.getElem?_toArray, List.getElem?_cons_zero, List.getElem?_cons_succ] at a1 a2; rw [HRL.out] at a0))
        | (go_at_call 35; ((refine (is_calls HBO6.out.ref HLP.out o.a o.b).mono ?_); rintro e w7 hh; rw [HP.out] at hh; obtain ⟨rfl, hb⟩ := hh; have HBO7 := Aside0.mk (HBO6.out.below hb); have HX7 := Aside0.mk (blk_below HX6.out hb); have HB7 := Aside0.mk (HB6.out.trans (hb.mono HB6.out.size)); clear hb; have a0 := HBO7.out.ref.cell0; have a1 := blk_cell HX7.out 1; have a2 := blk_cell HX7.out 2; simp only [op_cells, List.getElem?_toArray, List.getElem?_cons_zero, List.getElem?_cons_succ] at a1 a2; rw [HRL.out] at a0)))
    all_goals
      go_wp2
      go_meet
      case rel => exact ⟨rfl, HB7⟩
  case rest =>
    obtain ⟨rfl, HW⟩ := hcut
    have HBO3 := Aside0.mk (HBO2.out.below HW.out)
    have HB3 := Aside0.mk (HB2.out.trans (HW.out.mono HB2.out.size))
    have HR13 := Aside0.mk (Kd.R_below HR12.out HW.out)
    have HR23 := Aside0.mk (Kd.R_below HR2.out HW.out)
    have e13 := HNN.out
    clear HX HX1 HX2 HBO HBO1 HBO2 HR1 HR12 HR2 HB HB1 HB2
    go_wp2
    go_loopg [21] N (fun kq v21 wl => ∃ k : Nat, v21 = .int .i64 (k : Int) ∧ Aside0 (kq + k = N) ∧ Aside0 (Below wc.heap.size wc wl))
    case atStart => exact ⟨0, rfl, ⟨rfl⟩, ⟨Below.refl _ _⟩⟩
    case round =>
      obtain ⟨k, rfl, HK, HDR⟩ := hrel
      have HR14 := Aside0.mk (Kd.R_below HR13.out HDR.out)
      have HR24 := Aside0.mk (Kd.R_below HR23.out HDR.out)
      by_cases hlt : k < N
      · have g1 : decide ((k : Int) < (N : Int)) = true := decide_eq_true (by omega)
        have g2 : decide (k < N) = true := decide_eq_true hlt
        obtain ⟨b1, q8, e8, _⟩ := R_plain HR14.out (by rw [HNN.out]; omega)
        rw [HNN.out] at e8
        injection e8 with e81 _ e83
        subst e81
        subst e83
        obtain ⟨b2, q9, e9, _⟩ := R_plain HR24.out (by rw [HNN.out]; omega)
        rw [HNN.out] at e9
        injection e9 with e91 _ e93
        subst e91
        subst e93
        obtain ⟨m, hm⟩ : ∃ m, m = M.getD k zeroMail := ⟨_, rfl⟩
        have x0 := R_mailat HR14.out k 0 (by rw [HNN.out]; exact hlt) (.int .i64 m.id) (by rw [hm]; rfl)
        have x1 := R_mailat HR14.out k 1 (by rw [HNN.out]; exact hlt) (.int .i64 m.frm) (by rw [hm]; rfl)
        have x2 := R_mailat HR14.out k 2 (by rw [HNN.out]; exact hlt) (.int .i64 m.to_) (by rw [hm]; rfl)
        have x3 := R_mailat HR14.out k 3 (by rw [HNN.out]; exact hlt) (.string m.body) (by rw [hm]; rfl)
        have x4 := R_mailat HR14.out k 4 (by rw [HNN.out]; exact hlt) (.int .i64 m.age) (by rw [hm]; rfl)
        have y0 := R_mailat HR24.out k 0 (by rw [HNN.out]; exact hlt) (.int .i64 m.id) (by rw [hm]; rfl)
        have y1 := R_mailat HR24.out k 1 (by rw [HNN.out]; exact hlt) (.int .i64 m.frm) (by rw [hm]; rfl)
        have y2 := R_mailat HR24.out k 2 (by rw [HNN.out]; exact hlt) (.int .i64 m.to_) (by rw [hm]; rfl)
        have y3 := R_mailat HR24.out k 3 (by rw [HNN.out]; exact hlt) (.string m.body) (by rw [hm]; rfl)
        have y4 := R_mailat HR24.out k 4 (by rw [HNN.out]; exact hlt) (.int .i64 m.age) (by rw [hm]; rfl)
        rw [Nat.add_zero] at x0 y0
        have hne : ∀ W, (binOp .neq 29 (.agg #[.int .i64 m.id, .int .i64 m.frm, .int .i64 m.to_, .string m.body, .int .i64 m.age]) (.agg #[.int .i64 m.id, .int .i64 m.frm, .int .i64 m.to_, .string m.body, .int .i64 m.age])).run Try.prog W = .ok (.bool false) W := fun W => by rw [neq29, eqM_self]; rfl
        have p1 : (0 : Int) ≤ (k : Int) := Int.natCast_nonneg _
        have q1 : (k : Int) < (N : Int) := by omega
        have HLT := Aside0.mk hlt
        clear hlt hm e13
        go_wp2
        go_region
        all_goals
          clear x0 x1 x2 x3 x4 y0 y1 y2 y3 y4 hne
          go_wp2
          go_roundg (gk - 1)
          case measure => have h1 := HK.out; have h2 := HLT.out; omega
          case rel => exact ⟨k + 1, by have h3 := HML.out; have h2 := HLT.out; rw [show wrap64 ((k : Int) + 1) = ((k + 1 : Nat) : Int) by rw [wrap64]; omega], ⟨by have h1 := HK.out; have h2 := HLT.out; omega⟩, ⟨HDR.out.drew⟩⟩
      · have hk : k = N := by have h1 := HK.out; omega
        have g1 : decide ((k : Int) < (N : Int)) = false := decide_eq_false (by omega)
        have g2 : decide (k < N) = false := decide_eq_false hlt
        have HBO4 := Aside0.mk (HBO3.out.below HDR.out)
        have HB4 := Aside0.mk (HB3.out.trans (HDR.out.mono HB3.out.size))
        clear hlt hk e13
        go_wp2
        apply HKA.out
        exact ⟨⟨S, R, _, _, _, HBO4.out, HAG.out, HB4.out⟩⟩
end Go.Proofs.Ytnggcegfieeonaa.Nx
