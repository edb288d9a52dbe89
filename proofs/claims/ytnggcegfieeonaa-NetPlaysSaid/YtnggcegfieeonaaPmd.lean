/- What is proved: Nsw1, Nsw3, Nsw4: see each part's head. No condition but what each theorem says. -/
import Derived.Test.YtnggcegfieeonaaPmc
import Derived.Deep.RegionHeld3
/- What is proved: what the switch of NetPlays leaves, way by way. No condition but what each theorem says. -/
namespace Go.Proofs.Ytnggcegfieeonaa.Nx
open Go.RowKit Go.Proofs.YtnggcegfieeonaaW.PrintWords Go.Proofs.YtnggcegfieeonaaW.PrintLast Go.Proofs.YtnggcegfieeonaaW.PrintMore
open Go.Proofs.Ytnggcegfieeonaa.PNetPlays
set_option linter.unusedVariables false
set_option linter.unusedSimpArgs false
/-- A block of a code, by its number. -/
def findBlock (k : Nat) : Code → Option Code
  | .block n c => if n = k then some (.block n c) else findBlock k c
  | .seq a b => match findBlock k a with
    | some c => some c
    | none => findBlock k b
  | .cond _ a b => match findBlock k a with
    | some c => some c
    | none => findBlock k b
  | .loop c => findBlock k c
  | .scope c => findBlock k c
  | _ => none
noncomputable def swCode : Code := (Try.f7.body.bind (findBlock 2)).getD .skip
set_option maxHeartbeats 16000000 in
set_option maxRecDepth 1000000 in
theorem sw_6 (w wc : World) (g r gb i : Nat) (o : OpR) (kk : Int) (S : Net) (R : RNet) (v vr ur : Value) (HBO5 : Aside0 (Both w.heap.size wc g v S r vr ur R)) (HAG : Aside0 (Agree S R i)) (HI100 : Aside0 (i ≤ 100)) (HOW : Aside0 o.ok) (HX5 : Aside0 (wc.heap[gb]? = some (.cells o.cells.toArray 38 (0, 0)))) (HB5 : Aside0 (Below w.heap.size w wc)) (hc9 : kk = 6)
    (c0 c1 c2 c3 c6 c10 c11 c12 c13 c14 c15 c16 c17 c18 c19 c20 c21 c22 c23 c24 c25 c26 c27 c28 c29 c30 c31 c32 c33 c34 c35 c36 c37 c38 c39 c40 c41 c42 c43 c44 c45 c46 c47 c48 c50 c51 c52 c53 c54 c55 c56 c57 c58 c59 c60 c61 c62 c63 c64 c65 c66 c67 c68 c69 c70 c71 c72 c73 c74 c75 c76 c77 c78 c79 c80 c81 c82 c83 c84 c85 c86 c87 c88 c89 c90 c91 c92 c93 c94 c95 c96 c97 c98 c99 c100 c101 c102 c103 c104 c105 c106 c107 c108 c109 c110 c111 c112 c113 c114 c115 c116 c117 c118 c119 c120 c121 c122 c123 c124 c125 c126 c127 c128 c129 c130 c131 c132 c133 c134 c135 c136 c137 c138 c139 c140 c141 c142 c143 c144 c145 c146 c147 c148 c149 c150 c151 c152 c153 c154 c155 c156 c157 c158 c159 c160 c161 c162 c163 c164 c165 c166 c167 c168 c169 c170 c171 c172 c173 c174 c175 c176 c177 c178 c179 c180 c181 c182 c183 c184 c185 c186 c187 c188 c189 c190 c191 c192 c193 c194 c195 c196 c197 c198 c199 c200 c201 c202 c203 c204 c205 c206 c207 c208 c209 c210 c211 c212 c213 c214 c215 c216 c217 c218 c219 c220 c221 c222 c223 c224 c225 c226 c227 c228 c229 c230 c231 c232 c233 c234 c235 c236 c237 c238 c239 c240 c241 c242 c243 : Value) (K : Act → World → Prop) (HKA : Aside0 (∀ (d10 d11 d12 d13 d14 d15 d16 d17 d18 d50 d51 d52 d53 d54 d55 d56 d57 d58 d59 d60 d61 d62 d63 d64 d65 d66 d67 d68 d69 d70 d71 d72 d73 d74 d75 d76 d77 d78 d79 d80 d81 d82 d83 d84 d85 d86 d87 d88 d89 d90 d91 d92 d93 d94 d95 d96 d97 d98 d99 d100 d101 d102 d103 d104 d105 d106 d107 d108 d109 d110 d111 d112 d113 d114 d115 d116 d117 d118 d119 d120 d121 d122 d123 d124 d125 d126 d127 d128 d129 d130 d131 d132 d133 d134 d135 d136 d137 d138 d139 d140 d141 d142 d143 d144 d145 d146 d147 d148 d149 d150 d151 d152 d153 d154 d155 d156 d157 d158 d159 d160 d161 d162 d163 d164 d165 d166 d167 d168 d169 d170 d171 d172 d173 d174 d175 d176 d177 d178 d179 d180 d181 d182 : Value) (w' : World), Half w.heap.size w w' g r gb i o → K ⟨#[c0, c1, c2, c3, .pointer (some ⟨g, 0, none⟩), .pointer (some ⟨r, 0, none⟩), c6, .pointer (some ⟨gb, 0, none⟩), .int .i64 kk, .bool true, d10, d11, d12, d13, d14, d15, d16, d17, d18, c19, c20, c21, c22, c23, c24, c25, c26, c27, c28, c29, c30, c31, c32, c33, c34, c35, c36, c37, c38, c39, c40, c41, c42, c43, c44, c45, c46, c47, c48, .int .i64 kk, d50, d51, d52, d53, d54, d55, d56, d57, d58, d59, d60, d61, d62, d63, d64, d65, d66, d67, d68, d69, d70, d71, d72, d73, d74, d75, d76, d77, d78, d79, d80, d81, d82, d83, d84, d85, d86, d87, d88, d89, d90, d91, d92, d93, d94, d95, d96, d97, d98, d99, d100, d101, d102, d103, d104, d105, d106, d107, d108, d109, d110, d111, d112, d113, d114, d115, d116, d117, d118, d119, d120, d121, d122, d123, d124, d125, d126, d127, d128, d129, d130, d131, d132, d133, d134, d135, d136, d137, d138, d139, d140, d141, d142, d143, d144, d145, d146, d147, d148, d149, d150, d151, d152, d153, d154, d155, d156, d157, d158, d159, d160, d161, d162, d163, d164, d165, d166, d167, d168, d169, d170, d171, d172, d173, d174, d175, d176, d177, d178, d179, d180, d181, d182, c183, c184, c185, c186, c187, c188, c189, c190, c191, c192, c193, c194, c195, c196, c197, c198, c199, c200, c201, c202, c203, c204, c205, c206, c207, c208, c209, c210, c211, c212, c213, c214, c215, c216, c217, c218, c219, c220, c221, c222, c223, c224, c225, c226, c227, c228, c229, c230, c231, c232, c233, c234, c235, c236, c237, c238, c239, c240, c241, c242, c243], []⟩ w')) :
    Code.wp Try.prog swCode (Exit.then K (fun _ _ _ => False)) ⟨#[c0, c1, c2, c3, .pointer (some ⟨g, 0, none⟩), .pointer (some ⟨r, 0, none⟩), c6, .pointer (some ⟨gb, 0, none⟩), .int .i64 kk, .bool true, c10, c11, c12, c13, c14, c15, c16, c17, c18, c19, c20, c21, c22, c23, c24, c25, c26, c27, c28, c29, c30, c31, c32, c33, c34, c35, c36, c37, c38, c39, c40, c41, c42, c43, c44, c45, c46, c47, c48, .int .i64 kk, c50, c51, c52, c53, c54, c55, c56, c57, c58, c59, c60, c61, c62, c63, c64, c65, c66, c67, c68, c69, c70, c71, c72, c73, c74, c75, c76, c77, c78, c79, c80, c81, c82, c83, c84, c85, c86, c87, c88, c89, c90, c91, c92, c93, c94, c95, c96, c97, c98, c99, c100, c101, c102, c103, c104, c105, c106, c107, c108, c109, c110, c111, c112, c113, c114, c115, c116, c117, c118, c119, c120, c121, c122, c123, c124, c125, c126, c127, c128, c129, c130, c131, c132, c133, c134, c135, c136, c137, c138, c139, c140, c141, c142, c143, c144, c145, c146, c147, c148, c149, c150, c151, c152, c153, c154, c155, c156, c157, c158, c159, c160, c161, c162, c163, c164, c165, c166, c167, c168, c169, c170, c171, c172, c173, c174, c175, c176, c177, c178, c179, c180, c181, c182, c183, c184, c185, c186, c187, c188, c189, c190, c191, c192, c193, c194, c195, c196, c197, c198, c199, c200, c201, c202, c203, c204, c205, c206, c207, c208, c209, c210, c211, c212, c213, c214, c215, c216, c217, c218, c219, c220, c221, c222, c223, c224, c225, c226, c227, c228, c229, c230, c231, c232, c233, c234, c235, c236, c237, c238, c239, c240, c241, c242, c243], []⟩ wc := by
  have hu29 := Try.underlying29
  have hu38 := Try.underlying38
  have hu49 := Try.underlying49
  have hz29 := zero29
  have y0 := blk_cell HX5.out 0
  have y1 := blk_cell HX5.out 1
  have y2 := blk_cell HX5.out 2
  have y3 := blk_cell HX5.out 3
  simp only [op_cells, List.getElem?_toArray, List.getElem?_cons_zero, List.getElem?_cons_succ] at y0 y1 y2 y3
  have k4 : (kk == 4) = false := by rw [beq_eq_false_iff_ne]; omega
  have k5 : (kk == 5) = false := by rw [beq_eq_false_iff_ne]; omega
  have k6 : (kk == 6) = true := by rw [beq_iff_eq]; omega
  clear hc9
  conv => arg 2; whnf
  have HBOD := Aside0.mk (show Both w.heap.size wc.drew g v S r vr ur R from HBO5.out.below (Below.drew (Below.refl wc.heap.size wc)))
  have HXD := Aside0.mk (show wc.drew.heap[gb]? = some (.cells o.cells.toArray 38 (0, 0)) from HX5.out)
  have HBD := Aside0.mk (show Below w.heap.size w wc.drew from HB5.out.drew)
  obtain ⟨h1, h2⟩ := agree_drop HAG.out o.a HOW.out.2.1
  obtain ⟨q, S', hs⟩ : ∃ q S', dropF S o.a = (q, S') := ⟨_, _, rfl⟩
  obtain ⟨q', R', hr⟩ : ∃ q' R', rDrop R o.a = (q', R') := ⟨_, _, rfl⟩
  rw [hs, hr] at h1 h2
  dsimp only at h1 h2
  subst h1
  have HNT := Aside0.mk hs
  have HRT := Aside0.mk hr
  have HAG2 := Aside0.mk h2
  have eqq : (q == q) = true := by simp
  clear hs hr h2
  clear y0 y3
  go_upto_region 25 with (fail)
  go_region_with (first
    | (go_at_call 24; ((refine (drop_calls HBOD.out.net o.a HOW.out.2.1 (by have h1 := HAG.out.len; have h2 := HI100.out; omega)).mono ?_); rintro e w6 hh; rw [HNT.out] at hh; dsimp only at hh; obtain ⟨rfl, v6, hn6, hk6⟩ := hh; have HBO6 := Aside0.mk (HBOD.out.by_net hn6 hk6); have HX6 := Aside0.mk (HBOD.out.box_net hk6 HXD.out); have HB6 := Aside0.mk (HBD.out.trans hk6.below); clear hn6 hk6; have z1 := blk_cell HX6.out 1; have z2 := blk_cell HX6.out 2; simp only [op_cells, List.getElem?_toArray, List.getElem?_cons_zero, List.getElem?_cons_succ] at z1 z2))
    | (go_at_call 25; ((refine (rDrop_calls HBO6.out.ref (by have h1 := HAG.out.len; have h0 := HAG.out.rlen; have h2 := HI100.out; omega) o.a HOW.out.2.1).mono ?_); rintro e w7 hh; rw [HRT.out] at hh; dsimp only at hh; obtain ⟨rfl, v7, hn7, hk7⟩ := hh; have HBO7 := Aside0.mk (HBO6.out.by_ref hn7 hk7); have HX7 := Aside0.mk (HBO6.out.box_ref hk7 HX6.out); have HB7 := Aside0.mk (HB6.out.trans hk7.below); clear hn7 hk7)))
  all_goals
    go_wp2
    apply HKA.out
    exact ⟨⟨S', R', _, _, _, HBO7.out, HAG2.out, HX7.out, HB7.out⟩⟩
set_option maxHeartbeats 16000000 in
set_option maxRecDepth 1000000 in
theorem sw_4 (w wc : World) (g r gb i : Nat) (o : OpR) (kk : Int) (S : Net) (R : RNet) (v vr ur : Value) (HBO5 : Aside0 (Both w.heap.size wc g v S r vr ur R)) (HAG : Aside0 (Agree S R i)) (HI100 : Aside0 (i ≤ 100)) (HOW : Aside0 o.ok) (HX5 : Aside0 (wc.heap[gb]? = some (.cells o.cells.toArray 38 (0, 0)))) (HB5 : Aside0 (Below w.heap.size w wc)) (hc9 : kk = 4)
    (c0 c1 c2 c3 c6 c10 c11 c12 c13 c14 c15 c16 c17 c18 c19 c20 c21 c22 c23 c24 c25 c26 c27 c28 c29 c30 c31 c32 c33 c34 c35 c36 c37 c38 c39 c40 c41 c42 c43 c44 c45 c46 c47 c48 c50 c51 c52 c53 c54 c55 c56 c57 c58 c59 c60 c61 c62 c63 c64 c65 c66 c67 c68 c69 c70 c71 c72 c73 c74 c75 c76 c77 c78 c79 c80 c81 c82 c83 c84 c85 c86 c87 c88 c89 c90 c91 c92 c93 c94 c95 c96 c97 c98 c99 c100 c101 c102 c103 c104 c105 c106 c107 c108 c109 c110 c111 c112 c113 c114 c115 c116 c117 c118 c119 c120 c121 c122 c123 c124 c125 c126 c127 c128 c129 c130 c131 c132 c133 c134 c135 c136 c137 c138 c139 c140 c141 c142 c143 c144 c145 c146 c147 c148 c149 c150 c151 c152 c153 c154 c155 c156 c157 c158 c159 c160 c161 c162 c163 c164 c165 c166 c167 c168 c169 c170 c171 c172 c173 c174 c175 c176 c177 c178 c179 c180 c181 c182 c183 c184 c185 c186 c187 c188 c189 c190 c191 c192 c193 c194 c195 c196 c197 c198 c199 c200 c201 c202 c203 c204 c205 c206 c207 c208 c209 c210 c211 c212 c213 c214 c215 c216 c217 c218 c219 c220 c221 c222 c223 c224 c225 c226 c227 c228 c229 c230 c231 c232 c233 c234 c235 c236 c237 c238 c239 c240 c241 c242 c243 : Value) (K : Act → World → Prop) (HKA : Aside0 (∀ (d10 d11 d12 d13 d14 d15 d16 d17 d18 d50 d51 d52 d53 d54 d55 d56 d57 d58 d59 d60 d61 d62 d63 d64 d65 d66 d67 d68 d69 d70 d71 d72 d73 d74 d75 d76 d77 d78 d79 d80 d81 d82 d83 d84 d85 d86 d87 d88 d89 d90 d91 d92 d93 d94 d95 d96 d97 d98 d99 d100 d101 d102 d103 d104 d105 d106 d107 d108 d109 d110 d111 d112 d113 d114 d115 d116 d117 d118 d119 d120 d121 d122 d123 d124 d125 d126 d127 d128 d129 d130 d131 d132 d133 d134 d135 d136 d137 d138 d139 d140 d141 d142 d143 d144 d145 d146 d147 d148 d149 d150 d151 d152 d153 d154 d155 d156 d157 d158 d159 d160 d161 d162 d163 d164 d165 d166 d167 d168 d169 d170 d171 d172 d173 d174 d175 d176 d177 d178 d179 d180 d181 d182 : Value) (w' : World), Half w.heap.size w w' g r gb i o → K ⟨#[c0, c1, c2, c3, .pointer (some ⟨g, 0, none⟩), .pointer (some ⟨r, 0, none⟩), c6, .pointer (some ⟨gb, 0, none⟩), .int .i64 kk, .bool true, d10, d11, d12, d13, d14, d15, d16, d17, d18, c19, c20, c21, c22, c23, c24, c25, c26, c27, c28, c29, c30, c31, c32, c33, c34, c35, c36, c37, c38, c39, c40, c41, c42, c43, c44, c45, c46, c47, c48, .int .i64 kk, d50, d51, d52, d53, d54, d55, d56, d57, d58, d59, d60, d61, d62, d63, d64, d65, d66, d67, d68, d69, d70, d71, d72, d73, d74, d75, d76, d77, d78, d79, d80, d81, d82, d83, d84, d85, d86, d87, d88, d89, d90, d91, d92, d93, d94, d95, d96, d97, d98, d99, d100, d101, d102, d103, d104, d105, d106, d107, d108, d109, d110, d111, d112, d113, d114, d115, d116, d117, d118, d119, d120, d121, d122, d123, d124, d125, d126, d127, d128, d129, d130, d131, d132, d133, d134, d135, d136, d137, d138, d139, d140, d141, d142, d143, d144, d145, d146, d147, d148, d149, d150, d151, d152, d153, d154, d155, d156, d157, d158, d159, d160, d161, d162, d163, d164, d165, d166, d167, d168, d169, d170, d171, d172, d173, d174, d175, d176, d177, d178, d179, d180, d181, d182, c183, c184, c185, c186, c187, c188, c189, c190, c191, c192, c193, c194, c195, c196, c197, c198, c199, c200, c201, c202, c203, c204, c205, c206, c207, c208, c209, c210, c211, c212, c213, c214, c215, c216, c217, c218, c219, c220, c221, c222, c223, c224, c225, c226, c227, c228, c229, c230, c231, c232, c233, c234, c235, c236, c237, c238, c239, c240, c241, c242, c243], []⟩ w')) :
    Code.wp Try.prog swCode (Exit.then K (fun _ _ _ => False)) ⟨#[c0, c1, c2, c3, .pointer (some ⟨g, 0, none⟩), .pointer (some ⟨r, 0, none⟩), c6, .pointer (some ⟨gb, 0, none⟩), .int .i64 kk, .bool true, c10, c11, c12, c13, c14, c15, c16, c17, c18, c19, c20, c21, c22, c23, c24, c25, c26, c27, c28, c29, c30, c31, c32, c33, c34, c35, c36, c37, c38, c39, c40, c41, c42, c43, c44, c45, c46, c47, c48, .int .i64 kk, c50, c51, c52, c53, c54, c55, c56, c57, c58, c59, c60, c61, c62, c63, c64, c65, c66, c67, c68, c69, c70, c71, c72, c73, c74, c75, c76, c77, c78, c79, c80, c81, c82, c83, c84, c85, c86, c87, c88, c89, c90, c91, c92, c93, c94, c95, c96, c97, c98, c99, c100, c101, c102, c103, c104, c105, c106, c107, c108, c109, c110, c111, c112, c113, c114, c115, c116, c117, c118, c119, c120, c121, c122, c123, c124, c125, c126, c127, c128, c129, c130, c131, c132, c133, c134, c135, c136, c137, c138, c139, c140, c141, c142, c143, c144, c145, c146, c147, c148, c149, c150, c151, c152, c153, c154, c155, c156, c157, c158, c159, c160, c161, c162, c163, c164, c165, c166, c167, c168, c169, c170, c171, c172, c173, c174, c175, c176, c177, c178, c179, c180, c181, c182, c183, c184, c185, c186, c187, c188, c189, c190, c191, c192, c193, c194, c195, c196, c197, c198, c199, c200, c201, c202, c203, c204, c205, c206, c207, c208, c209, c210, c211, c212, c213, c214, c215, c216, c217, c218, c219, c220, c221, c222, c223, c224, c225, c226, c227, c228, c229, c230, c231, c232, c233, c234, c235, c236, c237, c238, c239, c240, c241, c242, c243], []⟩ wc := by
  have hu29 := Try.underlying29
  have hu38 := Try.underlying38
  have hu49 := Try.underlying49
  have hz29 := zero29
  have y0 := blk_cell HX5.out 0
  have y1 := blk_cell HX5.out 1
  have y2 := blk_cell HX5.out 2
  have y3 := blk_cell HX5.out 3
  simp only [op_cells, List.getElem?_toArray, List.getElem?_cons_zero, List.getElem?_cons_succ] at y0 y1 y2 y3
  have k4 : (kk == 4) = true := by rw [beq_iff_eq]; omega
  clear hc9
  conv => arg 2; whnf
  obtain ⟨h1, h2, h3⟩ := agree_take HAG.out o.a HOW.out.2.1
  obtain ⟨m, q2, S', hs⟩ : ∃ m q2 S', takeF S o.a = (m, q2, S') := ⟨_, _, _, rfl⟩
  obtain ⟨m', q2', R', hr⟩ : ∃ m' q2' R', rTake R o.a = (m', q2', R') := ⟨_, _, _, rfl⟩
  rw [hs, hr] at h1 h2 h3
  dsimp only at h1 h2 h3
  subst h1
  subst h2
  have HNT := Aside0.mk hs
  have HRT := Aside0.mk hr
  have HAG2 := Aside0.mk h3
  have heq : ∀ W, (binOp .eql 29 (.agg #[.int .i64 m.id, .int .i64 m.frm, .int .i64 m.to_, .string m.body, .int .i64 m.age]) (.agg #[.int .i64 m.id, .int .i64 m.frm, .int .i64 m.to_, .string m.body, .int .i64 m.age])).run Try.prog W = .ok (.bool true) W := fun W => by rw [eql29, eqM_self]
  have eqq2 : (q2 == q2) = true := by simp
  clear hs hr h3 y0 y2 y3
  go_wp2_with (first
    | (go_at_call 13; ((refine (take_calls HBO5.out.net HAG.out.good (by have h1 := HAG.out.len; have h2 := HI100.out; omega) o.a HOW.out.2.1).mono ?_); rintro e w6 hh; rw [HNT.out] at hh; dsimp only at hh; obtain ⟨he, v6, hn6, hk6⟩ := hh; obtain rfl : e = .returned (.tuple #[.agg #[.int .i64 m.id, .int .i64 m.frm, .int .i64 m.to_, .string m.body, .int .i64 m.age], .bool q2]) := he; have HBO6 := Aside0.mk (HBO5.out.by_net hn6 hk6); have HX6 := Aside0.mk (HBO5.out.box_net hk6 HX5.out); have HB6 := Aside0.mk (HB5.out.trans hk6.below); clear hn6 hk6))
    | ((with_reducible refine gate_dst (N := 10) rfl ?_); refine box_event ?hg (N := 10) ?hd (cs := #[.int .i64 0, .int .i64 0, .int .i64 0, .string ⟨#[]⟩, .int .i64 0]) (t := 29) ?hr ?_; (case hd => rfl); (case hg => rfl); (case hr => first | (go_simp; done) | (go_simp; rfl)); intro g10 hg w7 hbox hb; have HX10 := Aside0.mk hbox; have HBX7 := Aside0.mk hb; have HG10 := Aside0.mk hg; clear hbox hb hg)
    | (refine store_box rfl (.tmp 10) (.tmp 89) rfl g10 _ (by rfl) rfl m (by rfl) HX10.out ?_; intro w8 hx8 hfar8 hb8; have HXa := Aside0.mk hx8; have HBX8 := Aside0.mk (HBX7.out.trans (hb8.mono (Nat.le_of_eq HG10.out.symm))); have HBO8 := Aside0.mk (HBO6.out.below HBX8.out); have HX8 := Aside0.mk (blk_below HX6.out HBX8.out); have HB8 := Aside0.mk (HB6.out.trans (HBX8.out.mono HB6.out.size)); have HF8 := Aside0.mk (HBO6.out.ref.fresh (Nat.le_of_eq HG10.out.symm)); have z1 := blk_cell HX8.out 1; have z2 := blk_cell HX8.out 2; simp only [op_cells, List.getElem?_toArray, List.getElem?_cons_zero, List.getElem?_cons_succ] at z1 z2; clear hx8 hfar8 hb8)
    | (go_at_call 23; ((refine (rTake_calls HBO8.out.ref (by have h1 := HAG.out.prs; have h2 := HI100.out; omega) (by have h1 := HAG.out.len; have h0 := HAG.out.rlen; have h2 := HI100.out; omega) o.a HOW.out.2.1).mono ?_); rintro e w9 hh; rw [HRT.out] at hh; dsimp only at hh; obtain ⟨he, v9, hn9, hk9⟩ := hh; obtain rfl : e = .returned (.tuple #[.agg #[.int .i64 m.id, .int .i64 m.frm, .int .i64 m.to_, .string m.body, .int .i64 m.age], .bool q2]) := he; have HBO9 := Aside0.mk (HBO8.out.by_ref hn9 hk9); have HX9 := Aside0.mk (HBO8.out.box_ref hk9 HX8.out); have HXb := Aside0.mk (hk9.box HXa.out HF8.out.1 HF8.out.2.1 HF8.out.2.2); have HB9 := Aside0.mk (HB8.out.trans hk9.below); clear hn9 hk9))
    | ((with_reducible refine gate_dst (N := 12) rfl ?_); refine box_event ?hg (N := 12) ?hd (cs := #[.int .i64 0, .int .i64 0, .int .i64 0, .string ⟨#[]⟩, .int .i64 0]) (t := 29) ?hr ?_; (case hd => rfl); (case hg => rfl); (case hr => first | (go_simp; done) | (go_simp; rfl)); intro g12 hg w10 hbox hb; have HX12 := Aside0.mk hbox; have HBX10 := Aside0.mk hb; have HG12 := Aside0.mk hg; clear hbox hb hg)
    | (refine store_box rfl (.tmp 12) (.tmp 96) rfl g12 _ (by rfl) rfl m (by rfl) HX12.out ?_; intro w11 hx11 hfar11 hb11; have HXc := Aside0.mk hx11; have HBX11 := Aside0.mk (HBX10.out.trans (hb11.mono (Nat.le_of_eq HG12.out.symm))); have HBO11 := Aside0.mk (HBO9.out.below HBX11.out); have HX11 := Aside0.mk (blk_below HX9.out HBX11.out); have HXd := Aside0.mk (blk_below HXb.out HBX11.out); have HB11 := Aside0.mk (HB9.out.trans (HBX11.out.mono HB9.out.size)); have s0 := blk_cell HXd.out 0; have s1 := blk_cell HXd.out 1; have s2 := blk_cell HXd.out 2; have s3 := blk_cell HXd.out 3; have s4 := blk_cell HXd.out 4; simp only [mail_cells, List.getElem?_toArray, List.getElem?_cons_zero, List.getElem?_cons_succ] at s0 s1 s2 s3 s4; have t0 := blk_cell HXc.out 0; have t1 := blk_cell HXc.out 1; have t2 := blk_cell HXc.out 2; have t3 := blk_cell HXc.out 3; have t4 := blk_cell HXc.out 4; simp only [mail_cells, List.getElem?_toArray, List.getElem?_cons_zero, List.getElem?_cons_succ] at t0 t1 t2 t3 t4; clear hx11 hfar11 hb11))
  (try simp only [Act.put, List.setIfInBounds_toArray, List.set_cons_zero, List.set_cons_succ])
  go_wp2
  apply HKA.out
  exact ⟨⟨S', R', _, _, _, HBO11.out, HAG2.out, HX11.out, HB11.out⟩⟩
set_option maxHeartbeats 16000000 in
set_option maxRecDepth 1000000 in
theorem sw_10 (w wc : World) (g r gb i : Nat) (o : OpR) (kk : Int) (S : Net) (R : RNet) (v vr ur : Value) (HBO5 : Aside0 (Both w.heap.size wc g v S r vr ur R)) (HAG : Aside0 (Agree S R i)) (HI100 : Aside0 (i ≤ 100)) (HOW : Aside0 o.ok) (HX5 : Aside0 (wc.heap[gb]? = some (.cells o.cells.toArray 38 (0, 0)))) (HB5 : Aside0 (Below w.heap.size w wc)) (hc9 : kk = 10)
    (c0 c1 c2 c3 c6 c10 c11 c12 c13 c14 c15 c16 c17 c18 c19 c20 c21 c22 c23 c24 c25 c26 c27 c28 c29 c30 c31 c32 c33 c34 c35 c36 c37 c38 c39 c40 c41 c42 c43 c44 c45 c46 c47 c48 c50 c51 c52 c53 c54 c55 c56 c57 c58 c59 c60 c61 c62 c63 c64 c65 c66 c67 c68 c69 c70 c71 c72 c73 c74 c75 c76 c77 c78 c79 c80 c81 c82 c83 c84 c85 c86 c87 c88 c89 c90 c91 c92 c93 c94 c95 c96 c97 c98 c99 c100 c101 c102 c103 c104 c105 c106 c107 c108 c109 c110 c111 c112 c113 c114 c115 c116 c117 c118 c119 c120 c121 c122 c123 c124 c125 c126 c127 c128 c129 c130 c131 c132 c133 c134 c135 c136 c137 c138 c139 c140 c141 c142 c143 c144 c145 c146 c147 c148 c149 c150 c151 c152 c153 c154 c155 c156 c157 c158 c159 c160 c161 c162 c163 c164 c165 c166 c167 c168 c169 c170 c171 c172 c173 c174 c175 c176 c177 c178 c179 c180 c181 c182 c183 c184 c185 c186 c187 c188 c189 c190 c191 c192 c193 c194 c195 c196 c197 c198 c199 c200 c201 c202 c203 c204 c205 c206 c207 c208 c209 c210 c211 c212 c213 c214 c215 c216 c217 c218 c219 c220 c221 c222 c223 c224 c225 c226 c227 c228 c229 c230 c231 c232 c233 c234 c235 c236 c237 c238 c239 c240 c241 c242 c243 : Value) (K : Act → World → Prop) (HKA : Aside0 (∀ (d10 d11 d12 d13 d14 d15 d16 d17 d18 d50 d51 d52 d53 d54 d55 d56 d57 d58 d59 d60 d61 d62 d63 d64 d65 d66 d67 d68 d69 d70 d71 d72 d73 d74 d75 d76 d77 d78 d79 d80 d81 d82 d83 d84 d85 d86 d87 d88 d89 d90 d91 d92 d93 d94 d95 d96 d97 d98 d99 d100 d101 d102 d103 d104 d105 d106 d107 d108 d109 d110 d111 d112 d113 d114 d115 d116 d117 d118 d119 d120 d121 d122 d123 d124 d125 d126 d127 d128 d129 d130 d131 d132 d133 d134 d135 d136 d137 d138 d139 d140 d141 d142 d143 d144 d145 d146 d147 d148 d149 d150 d151 d152 d153 d154 d155 d156 d157 d158 d159 d160 d161 d162 d163 d164 d165 d166 d167 d168 d169 d170 d171 d172 d173 d174 d175 d176 d177 d178 d179 d180 d181 d182 : Value) (w' : World), Half w.heap.size w w' g r gb i o → K ⟨#[c0, c1, c2, c3, .pointer (some ⟨g, 0, none⟩), .pointer (some ⟨r, 0, none⟩), c6, .pointer (some ⟨gb, 0, none⟩), .int .i64 kk, .bool true, d10, d11, d12, d13, d14, d15, d16, d17, d18, c19, c20, c21, c22, c23, c24, c25, c26, c27, c28, c29, c30, c31, c32, c33, c34, c35, c36, c37, c38, c39, c40, c41, c42, c43, c44, c45, c46, c47, c48, .int .i64 kk, d50, d51, d52, d53, d54, d55, d56, d57, d58, d59, d60, d61, d62, d63, d64, d65, d66, d67, d68, d69, d70, d71, d72, d73, d74, d75, d76, d77, d78, d79, d80, d81, d82, d83, d84, d85, d86, d87, d88, d89, d90, d91, d92, d93, d94, d95, d96, d97, d98, d99, d100, d101, d102, d103, d104, d105, d106, d107, d108, d109, d110, d111, d112, d113, d114, d115, d116, d117, d118, d119, d120, d121, d122, d123, d124, d125, d126, d127, d128, d129, d130, d131, d132, d133, d134, d135, d136, d137, d138, d139, d140, d141, d142, d143, d144, d145, d146, d147, d148, d149, d150, d151, d152, d153, d154, d155, d156, d157, d158, d159, d160, d161, d162, d163, d164, d165, d166, d167, d168, d169, d170, d171, d172, d173, d174, d175, d176, d177, d178, d179, d180, d181, d182, c183, c184, c185, c186, c187, c188, c189, c190, c191, c192, c193, c194, c195, c196, c197, c198, c199, c200, c201, c202, c203, c204, c205, c206, c207, c208, c209, c210, c211, c212, c213, c214, c215, c216, c217, c218, c219, c220, c221, c222, c223, c224, c225, c226, c227, c228, c229, c230, c231, c232, c233, c234, c235, c236, c237, c238, c239, c240, c241, c242, c243], []⟩ w')) :
    Code.wp Try.prog swCode (Exit.then K (fun _ _ _ => False)) ⟨#[c0, c1, c2, c3, .pointer (some ⟨g, 0, none⟩), .pointer (some ⟨r, 0, none⟩), c6, .pointer (some ⟨gb, 0, none⟩), .int .i64 kk, .bool true, c10, c11, c12, c13, c14, c15, c16, c17, c18, c19, c20, c21, c22, c23, c24, c25, c26, c27, c28, c29, c30, c31, c32, c33, c34, c35, c36, c37, c38, c39, c40, c41, c42, c43, c44, c45, c46, c47, c48, .int .i64 kk, c50, c51, c52, c53, c54, c55, c56, c57, c58, c59, c60, c61, c62, c63, c64, c65, c66, c67, c68, c69, c70, c71, c72, c73, c74, c75, c76, c77, c78, c79, c80, c81, c82, c83, c84, c85, c86, c87, c88, c89, c90, c91, c92, c93, c94, c95, c96, c97, c98, c99, c100, c101, c102, c103, c104, c105, c106, c107, c108, c109, c110, c111, c112, c113, c114, c115, c116, c117, c118, c119, c120, c121, c122, c123, c124, c125, c126, c127, c128, c129, c130, c131, c132, c133, c134, c135, c136, c137, c138, c139, c140, c141, c142, c143, c144, c145, c146, c147, c148, c149, c150, c151, c152, c153, c154, c155, c156, c157, c158, c159, c160, c161, c162, c163, c164, c165, c166, c167, c168, c169, c170, c171, c172, c173, c174, c175, c176, c177, c178, c179, c180, c181, c182, c183, c184, c185, c186, c187, c188, c189, c190, c191, c192, c193, c194, c195, c196, c197, c198, c199, c200, c201, c202, c203, c204, c205, c206, c207, c208, c209, c210, c211, c212, c213, c214, c215, c216, c217, c218, c219, c220, c221, c222, c223, c224, c225, c226, c227, c228, c229, c230, c231, c232, c233, c234, c235, c236, c237, c238, c239, c240, c241, c242, c243], []⟩ wc := by
  have hu29 := Try.underlying29
  have hu38 := Try.underlying38
  have hu49 := Try.underlying49
  have hz29 := zero29
  have y0 := blk_cell HX5.out 0
  have y1 := blk_cell HX5.out 1
  have y2 := blk_cell HX5.out 2
  have y3 := blk_cell HX5.out 3
  simp only [op_cells, List.getElem?_toArray, List.getElem?_cons_zero, List.getElem?_cons_succ] at y0 y1 y2 y3
  have k4 : (kk == 4) = false := by rw [beq_eq_false_iff_ne]; omega
  have k5 : (kk == 5) = false := by rw [beq_eq_false_iff_ne]; omega
  have k6 : (kk == 6) = false := by rw [beq_eq_false_iff_ne]; omega
  have k7 : (kk == 7) = false := by rw [beq_eq_false_iff_ne]; omega
  have k8 : (kk == 8) = false := by rw [beq_eq_false_iff_ne]; omega
  have k9 : (kk == 9) = false := by rw [beq_eq_false_iff_ne]; omega
  have k10 : (kk == 10) = true := by rw [beq_iff_eq]; omega
  clear hc9
  conv => arg 2; whnf
  have HAG2 := Aside0.mk (agree_tick HAG.out HI100.out)
  clear y0 y1 y2 y3
  go_wp2_with (first
    | (go_at_call 20; ((refine (tick_net HBO5.out.net).mono ?_); rintro e w6 ⟨rfl, hn6, hk6⟩; have HBO6 := Aside0.mk (HBO5.out.by_net hn6 hk6); have HX6 := Aside0.mk (HBO5.out.box_net hk6 HX5.out); have HB6 := Aside0.mk (HB5.out.trans hk6.below); clear hn6 hk6))
    | (go_at_call 29; ((refine (rTick_calls HBO6.out.ref (by have h1 := HAG.out.len; have h0 := HAG.out.rlen; have h2 := HI100.out; omega)).mono ?_); rintro e w7 ⟨rfl, hn7, hk7⟩; have HBO7 := Aside0.mk (HBO6.out.by_ref hn7 hk7); have HX7 := Aside0.mk (HBO6.out.box_ref hk7 HX6.out); have HB7 := Aside0.mk (HB6.out.trans hk7.below); clear hn7 hk7)))
  apply HKA.out
  exact ⟨⟨_, _, _, _, _, HBO7.out, HAG2.out, HX7.out, HB7.out⟩⟩
set_option maxHeartbeats 16000000 in
set_option maxRecDepth 1000000 in
theorem sw_12 (w wc : World) (g r gb i : Nat) (o : OpR) (kk : Int) (S : Net) (R : RNet) (v vr ur : Value) (HBO5 : Aside0 (Both w.heap.size wc g v S r vr ur R)) (HAG : Aside0 (Agree S R i)) (HI100 : Aside0 (i ≤ 100)) (HOW : Aside0 o.ok) (HX5 : Aside0 (wc.heap[gb]? = some (.cells o.cells.toArray 38 (0, 0)))) (HB5 : Aside0 (Below w.heap.size w wc)) (hc9 : 0 ≤ kk ∧ kk < 4)
    (c0 c1 c2 c3 c6 c10 c11 c12 c13 c14 c15 c16 c17 c18 c19 c20 c21 c22 c23 c24 c25 c26 c27 c28 c29 c30 c31 c32 c33 c34 c35 c36 c37 c38 c39 c40 c41 c42 c43 c44 c45 c46 c47 c48 c50 c51 c52 c53 c54 c55 c56 c57 c58 c59 c60 c61 c62 c63 c64 c65 c66 c67 c68 c69 c70 c71 c72 c73 c74 c75 c76 c77 c78 c79 c80 c81 c82 c83 c84 c85 c86 c87 c88 c89 c90 c91 c92 c93 c94 c95 c96 c97 c98 c99 c100 c101 c102 c103 c104 c105 c106 c107 c108 c109 c110 c111 c112 c113 c114 c115 c116 c117 c118 c119 c120 c121 c122 c123 c124 c125 c126 c127 c128 c129 c130 c131 c132 c133 c134 c135 c136 c137 c138 c139 c140 c141 c142 c143 c144 c145 c146 c147 c148 c149 c150 c151 c152 c153 c154 c155 c156 c157 c158 c159 c160 c161 c162 c163 c164 c165 c166 c167 c168 c169 c170 c171 c172 c173 c174 c175 c176 c177 c178 c179 c180 c181 c182 c183 c184 c185 c186 c187 c188 c189 c190 c191 c192 c193 c194 c195 c196 c197 c198 c199 c200 c201 c202 c203 c204 c205 c206 c207 c208 c209 c210 c211 c212 c213 c214 c215 c216 c217 c218 c219 c220 c221 c222 c223 c224 c225 c226 c227 c228 c229 c230 c231 c232 c233 c234 c235 c236 c237 c238 c239 c240 c241 c242 c243 : Value) (K : Act → World → Prop) (HKA : Aside0 (∀ (d10 d11 d12 d13 d14 d15 d16 d17 d18 d50 d51 d52 d53 d54 d55 d56 d57 d58 d59 d60 d61 d62 d63 d64 d65 d66 d67 d68 d69 d70 d71 d72 d73 d74 d75 d76 d77 d78 d79 d80 d81 d82 d83 d84 d85 d86 d87 d88 d89 d90 d91 d92 d93 d94 d95 d96 d97 d98 d99 d100 d101 d102 d103 d104 d105 d106 d107 d108 d109 d110 d111 d112 d113 d114 d115 d116 d117 d118 d119 d120 d121 d122 d123 d124 d125 d126 d127 d128 d129 d130 d131 d132 d133 d134 d135 d136 d137 d138 d139 d140 d141 d142 d143 d144 d145 d146 d147 d148 d149 d150 d151 d152 d153 d154 d155 d156 d157 d158 d159 d160 d161 d162 d163 d164 d165 d166 d167 d168 d169 d170 d171 d172 d173 d174 d175 d176 d177 d178 d179 d180 d181 d182 : Value) (w' : World), Half w.heap.size w w' g r gb i o → K ⟨#[c0, c1, c2, c3, .pointer (some ⟨g, 0, none⟩), .pointer (some ⟨r, 0, none⟩), c6, .pointer (some ⟨gb, 0, none⟩), .int .i64 kk, .bool true, d10, d11, d12, d13, d14, d15, d16, d17, d18, c19, c20, c21, c22, c23, c24, c25, c26, c27, c28, c29, c30, c31, c32, c33, c34, c35, c36, c37, c38, c39, c40, c41, c42, c43, c44, c45, c46, c47, c48, .int .i64 kk, d50, d51, d52, d53, d54, d55, d56, d57, d58, d59, d60, d61, d62, d63, d64, d65, d66, d67, d68, d69, d70, d71, d72, d73, d74, d75, d76, d77, d78, d79, d80, d81, d82, d83, d84, d85, d86, d87, d88, d89, d90, d91, d92, d93, d94, d95, d96, d97, d98, d99, d100, d101, d102, d103, d104, d105, d106, d107, d108, d109, d110, d111, d112, d113, d114, d115, d116, d117, d118, d119, d120, d121, d122, d123, d124, d125, d126, d127, d128, d129, d130, d131, d132, d133, d134, d135, d136, d137, d138, d139, d140, d141, d142, d143, d144, d145, d146, d147, d148, d149, d150, d151, d152, d153, d154, d155, d156, d157, d158, d159, d160, d161, d162, d163, d164, d165, d166, d167, d168, d169, d170, d171, d172, d173, d174, d175, d176, d177, d178, d179, d180, d181, d182, c183, c184, c185, c186, c187, c188, c189, c190, c191, c192, c193, c194, c195, c196, c197, c198, c199, c200, c201, c202, c203, c204, c205, c206, c207, c208, c209, c210, c211, c212, c213, c214, c215, c216, c217, c218, c219, c220, c221, c222, c223, c224, c225, c226, c227, c228, c229, c230, c231, c232, c233, c234, c235, c236, c237, c238, c239, c240, c241, c242, c243], []⟩ w')) :
    Code.wp Try.prog swCode (Exit.then K (fun _ _ _ => False)) ⟨#[c0, c1, c2, c3, .pointer (some ⟨g, 0, none⟩), .pointer (some ⟨r, 0, none⟩), c6, .pointer (some ⟨gb, 0, none⟩), .int .i64 kk, .bool true, c10, c11, c12, c13, c14, c15, c16, c17, c18, c19, c20, c21, c22, c23, c24, c25, c26, c27, c28, c29, c30, c31, c32, c33, c34, c35, c36, c37, c38, c39, c40, c41, c42, c43, c44, c45, c46, c47, c48, .int .i64 kk, c50, c51, c52, c53, c54, c55, c56, c57, c58, c59, c60, c61, c62, c63, c64, c65, c66, c67, c68, c69, c70, c71, c72, c73, c74, c75, c76, c77, c78, c79, c80, c81, c82, c83, c84, c85, c86, c87, c88, c89, c90, c91, c92, c93, c94, c95, c96, c97, c98, c99, c100, c101, c102, c103, c104, c105, c106, c107, c108, c109, c110, c111, c112, c113, c114, c115, c116, c117, c118, c119, c120, c121, c122, c123, c124, c125, c126, c127, c128, c129, c130, c131, c132, c133, c134, c135, c136, c137, c138, c139, c140, c141, c142, c143, c144, c145, c146, c147, c148, c149, c150, c151, c152, c153, c154, c155, c156, c157, c158, c159, c160, c161, c162, c163, c164, c165, c166, c167, c168, c169, c170, c171, c172, c173, c174, c175, c176, c177, c178, c179, c180, c181, c182, c183, c184, c185, c186, c187, c188, c189, c190, c191, c192, c193, c194, c195, c196, c197, c198, c199, c200, c201, c202, c203, c204, c205, c206, c207, c208, c209, c210, c211, c212, c213, c214, c215, c216, c217, c218, c219, c220, c221, c222, c223, c224, c225, c226, c227, c228, c229, c230, c231, c232, c233, c234, c235, c236, c237, c238, c239, c240, c241, c242, c243], []⟩ wc := by
  have hu29 := Try.underlying29
  have hu38 := Try.underlying38
  have hu49 := Try.underlying49
  have hz29 := zero29
  have y0 := blk_cell HX5.out 0
  have y1 := blk_cell HX5.out 1
  have y2 := blk_cell HX5.out 2
  have y3 := blk_cell HX5.out 3
  simp only [op_cells, List.getElem?_toArray, List.getElem?_cons_zero, List.getElem?_cons_succ] at y0 y1 y2 y3
  have k4 : (kk == 4) = false := by rw [beq_eq_false_iff_ne]; omega
  have k5 : (kk == 5) = false := by rw [beq_eq_false_iff_ne]; omega
  have k6 : (kk == 6) = false := by rw [beq_eq_false_iff_ne]; omega
  have k7 : (kk == 7) = false := by rw [beq_eq_false_iff_ne]; omega
  have k8 : (kk == 8) = false := by rw [beq_eq_false_iff_ne]; omega
  have k9 : (kk == 9) = false := by rw [beq_eq_false_iff_ne]; omega
  have k10 : (kk == 10) = false := by rw [beq_eq_false_iff_ne]; omega
  have k11 : (kk == 11) = false := by rw [beq_eq_false_iff_ne]; omega
  clear hc9
  conv => arg 2; whnf
  obtain ⟨h1, h2, h3⟩ := agree_send HAG.out HI100.out o.a o.b (cutTo o.body 100)
  obtain ⟨q, q2, S', hs⟩ : ∃ q q2 S', sendF S o.a o.b (cutTo o.body 100) = (q, q2, S') := ⟨_, _, _, rfl⟩
  obtain ⟨q', q2', R', hr⟩ : ∃ q' q2' R', rSend R o.a o.b (cutTo o.body 100) = (q', q2', R') := ⟨_, _, _, rfl⟩
  rw [hs, hr] at h1 h2 h3
  dsimp only at h1 h2 h3
  subst h1
  subst h2
  have HNT := Aside0.mk hs
  have HRT := Aside0.mk hr
  have HAG2 := Aside0.mk h3
  have eqq : (q == q) = true := by simp
  have eqq2 : (q2 == q2) = true := by simp
  clear hs hr h3 y0
  have HSH := Aside0.mk (show PNetPlays.heliographlaw14_short.f o.body 100 = some (cutTo o.body 100) from short_told o.body 100)
  go_wp2_with (first
    | (go_at_call 15; ((with_reducible refine (PNetPlays.heliographlaw14_short.calls o.body 100 (cutTo o.body 100) _ HSH.out).mono ?_); rintro e w' ⟨rfl, ⟨nd, rfl⟩⟩))
    | (go_at_call 11; ((refine (send_calls (HBO5.out.drewN nd).net o.a o.b (cutTo o.body 100)).mono ?_); rintro e w6 hh; rw [HNT.out] at hh; dsimp only at hh; obtain ⟨rfl, v6, hn6, hk6⟩ := hh; have HBO6 := Aside0.mk ((HBO5.out.drewN nd).by_net hn6 hk6); have HX6 := Aside0.mk ((HBO5.out.drewN nd).box_net hk6 HX5.out); have HB6 := Aside0.mk ((pw_below_drewN HB5.out nd).trans hk6.below); clear hn6 hk6; have z1 := blk_cell HX6.out 1; have z2 := blk_cell HX6.out 2; simp only [op_cells, List.getElem?_toArray, List.getElem?_cons_zero, List.getElem?_cons_succ] at z1 z2))
    | (go_at_call 32; ((refine (rSend_calls HBO6.out.ref o.a o.b (cutTo o.body 100)).mono ?_); rintro e w7 hh; rw [HRT.out] at hh; dsimp only at hh; obtain ⟨rfl, v7, hn7, hk7⟩ := hh; have HBO7 := Aside0.mk (HBO6.out.by_ref hn7 hk7); have HX7 := Aside0.mk (HBO6.out.box_ref hk7 HX6.out); have HB7 := Aside0.mk (HB6.out.trans hk7.below); clear hn7 hk7)))
  apply HKA.out
  exact ⟨⟨S', R', _, _, _, HBO7.out, HAG2.out, HX7.out, HB7.out⟩⟩
end Go.Proofs.Ytnggcegfieeonaa.Nx
/- What is proved: what the switch of NetPlays leaves, way by way. No condition but what each theorem says. -/
namespace Go.Proofs.Ytnggcegfieeonaa.Nx
open Go.RowKit Go.Proofs.YtnggcegfieeonaaW.PrintWords Go.Proofs.YtnggcegfieeonaaW.PrintLast Go.Proofs.YtnggcegfieeonaaW.PrintMore
open Go.Proofs.Ytnggcegfieeonaa.PNetPlays
set_option linter.unusedVariables false
set_option linter.unusedSimpArgs false
set_option maxHeartbeats 16000000 in
set_option maxRecDepth 1000000 in
theorem sw_11 (w wc : World) (g r gb i : Nat) (o : OpR) (kk : Int) (S : Net) (R : RNet) (v vr ur : Value) (HBO5 : Aside0 (Both w.heap.size wc g v S r vr ur R)) (HAG : Aside0 (Agree S R i)) (HI100 : Aside0 (i ≤ 100)) (HOW : Aside0 o.ok) (HX5 : Aside0 (wc.heap[gb]? = some (.cells o.cells.toArray 38 (0, 0)))) (HB5 : Aside0 (Below w.heap.size w wc)) (hc9 : kk = 11)
    (c0 c1 c2 c3 c6 c10 c11 c12 c13 c14 c15 c16 c17 c18 c19 c20 c21 c22 c23 c24 c25 c26 c27 c28 c29 c30 c31 c32 c33 c34 c35 c36 c37 c38 c39 c40 c41 c42 c43 c44 c45 c46 c47 c48 c50 c51 c52 c53 c54 c55 c56 c57 c58 c59 c60 c61 c62 c63 c64 c65 c66 c67 c68 c69 c70 c71 c72 c73 c74 c75 c76 c77 c78 c79 c80 c81 c82 c83 c84 c85 c86 c87 c88 c89 c90 c91 c92 c93 c94 c95 c96 c97 c98 c99 c100 c101 c102 c103 c104 c105 c106 c107 c108 c109 c110 c111 c112 c113 c114 c115 c116 c117 c118 c119 c120 c121 c122 c123 c124 c125 c126 c127 c128 c129 c130 c131 c132 c133 c134 c135 c136 c137 c138 c139 c140 c141 c142 c143 c144 c145 c146 c147 c148 c149 c150 c151 c152 c153 c154 c155 c156 c157 c158 c159 c160 c161 c162 c163 c164 c165 c166 c167 c168 c169 c170 c171 c172 c173 c174 c175 c176 c177 c178 c179 c180 c181 c182 c183 c184 c185 c186 c187 c188 c189 c190 c191 c192 c193 c194 c195 c196 c197 c198 c199 c200 c201 c202 c203 c204 c205 c206 c207 c208 c209 c210 c211 c212 c213 c214 c215 c216 c217 c218 c219 c220 c221 c222 c223 c224 c225 c226 c227 c228 c229 c230 c231 c232 c233 c234 c235 c236 c237 c238 c239 c240 c241 c242 c243 : Value) (K : Act → World → Prop) (HKA : Aside0 (∀ (d10 d11 d12 d13 d14 d15 d16 d17 d18 d50 d51 d52 d53 d54 d55 d56 d57 d58 d59 d60 d61 d62 d63 d64 d65 d66 d67 d68 d69 d70 d71 d72 d73 d74 d75 d76 d77 d78 d79 d80 d81 d82 d83 d84 d85 d86 d87 d88 d89 d90 d91 d92 d93 d94 d95 d96 d97 d98 d99 d100 d101 d102 d103 d104 d105 d106 d107 d108 d109 d110 d111 d112 d113 d114 d115 d116 d117 d118 d119 d120 d121 d122 d123 d124 d125 d126 d127 d128 d129 d130 d131 d132 d133 d134 d135 d136 d137 d138 d139 d140 d141 d142 d143 d144 d145 d146 d147 d148 d149 d150 d151 d152 d153 d154 d155 d156 d157 d158 d159 d160 d161 d162 d163 d164 d165 d166 d167 d168 d169 d170 d171 d172 d173 d174 d175 d176 d177 d178 d179 d180 d181 d182 : Value) (w' : World), Half w.heap.size w w' g r gb i o → K ⟨#[c0, c1, c2, c3, .pointer (some ⟨g, 0, none⟩), .pointer (some ⟨r, 0, none⟩), c6, .pointer (some ⟨gb, 0, none⟩), .int .i64 kk, .bool true, d10, d11, d12, d13, d14, d15, d16, d17, d18, c19, c20, c21, c22, c23, c24, c25, c26, c27, c28, c29, c30, c31, c32, c33, c34, c35, c36, c37, c38, c39, c40, c41, c42, c43, c44, c45, c46, c47, c48, .int .i64 kk, d50, d51, d52, d53, d54, d55, d56, d57, d58, d59, d60, d61, d62, d63, d64, d65, d66, d67, d68, d69, d70, d71, d72, d73, d74, d75, d76, d77, d78, d79, d80, d81, d82, d83, d84, d85, d86, d87, d88, d89, d90, d91, d92, d93, d94, d95, d96, d97, d98, d99, d100, d101, d102, d103, d104, d105, d106, d107, d108, d109, d110, d111, d112, d113, d114, d115, d116, d117, d118, d119, d120, d121, d122, d123, d124, d125, d126, d127, d128, d129, d130, d131, d132, d133, d134, d135, d136, d137, d138, d139, d140, d141, d142, d143, d144, d145, d146, d147, d148, d149, d150, d151, d152, d153, d154, d155, d156, d157, d158, d159, d160, d161, d162, d163, d164, d165, d166, d167, d168, d169, d170, d171, d172, d173, d174, d175, d176, d177, d178, d179, d180, d181, d182, c183, c184, c185, c186, c187, c188, c189, c190, c191, c192, c193, c194, c195, c196, c197, c198, c199, c200, c201, c202, c203, c204, c205, c206, c207, c208, c209, c210, c211, c212, c213, c214, c215, c216, c217, c218, c219, c220, c221, c222, c223, c224, c225, c226, c227, c228, c229, c230, c231, c232, c233, c234, c235, c236, c237, c238, c239, c240, c241, c242, c243], []⟩ w')) :
    Code.wp Try.prog swCode (Exit.then K (fun _ _ _ => False)) ⟨#[c0, c1, c2, c3, .pointer (some ⟨g, 0, none⟩), .pointer (some ⟨r, 0, none⟩), c6, .pointer (some ⟨gb, 0, none⟩), .int .i64 kk, .bool true, c10, c11, c12, c13, c14, c15, c16, c17, c18, c19, c20, c21, c22, c23, c24, c25, c26, c27, c28, c29, c30, c31, c32, c33, c34, c35, c36, c37, c38, c39, c40, c41, c42, c43, c44, c45, c46, c47, c48, .int .i64 kk, c50, c51, c52, c53, c54, c55, c56, c57, c58, c59, c60, c61, c62, c63, c64, c65, c66, c67, c68, c69, c70, c71, c72, c73, c74, c75, c76, c77, c78, c79, c80, c81, c82, c83, c84, c85, c86, c87, c88, c89, c90, c91, c92, c93, c94, c95, c96, c97, c98, c99, c100, c101, c102, c103, c104, c105, c106, c107, c108, c109, c110, c111, c112, c113, c114, c115, c116, c117, c118, c119, c120, c121, c122, c123, c124, c125, c126, c127, c128, c129, c130, c131, c132, c133, c134, c135, c136, c137, c138, c139, c140, c141, c142, c143, c144, c145, c146, c147, c148, c149, c150, c151, c152, c153, c154, c155, c156, c157, c158, c159, c160, c161, c162, c163, c164, c165, c166, c167, c168, c169, c170, c171, c172, c173, c174, c175, c176, c177, c178, c179, c180, c181, c182, c183, c184, c185, c186, c187, c188, c189, c190, c191, c192, c193, c194, c195, c196, c197, c198, c199, c200, c201, c202, c203, c204, c205, c206, c207, c208, c209, c210, c211, c212, c213, c214, c215, c216, c217, c218, c219, c220, c221, c222, c223, c224, c225, c226, c227, c228, c229, c230, c231, c232, c233, c234, c235, c236, c237, c238, c239, c240, c241, c242, c243], []⟩ wc := by
  have hu29 := Try.underlying29
  have hu38 := Try.underlying38
  have hu49 := Try.underlying49
  have hz29 := zero29
  have y0 := blk_cell HX5.out 0
  have y1 := blk_cell HX5.out 1
  have y2 := blk_cell HX5.out 2
  have y3 := blk_cell HX5.out 3
  simp only [op_cells, List.getElem?_toArray, List.getElem?_cons_zero, List.getElem?_cons_succ] at y0 y1 y2 y3
  have k4 : (kk == 4) = false := by rw [beq_eq_false_iff_ne]; omega
  have k5 : (kk == 5) = false := by rw [beq_eq_false_iff_ne]; omega
  have k6 : (kk == 6) = false := by rw [beq_eq_false_iff_ne]; omega
  have k7 : (kk == 7) = false := by rw [beq_eq_false_iff_ne]; omega
  have k8 : (kk == 8) = false := by rw [beq_eq_false_iff_ne]; omega
  have k9 : (kk == 9) = false := by rw [beq_eq_false_iff_ne]; omega
  have k10 : (kk == 10) = false := by rw [beq_eq_false_iff_ne]; omega
  have k11 : (kk == 11) = true := by rw [beq_iff_eq]; omega
  clear hc9
  conv => arg 2; whnf
  have HBOD := Aside0.mk (show Both w.heap.size wc.drew g v S r vr ur R from HBO5.out.below (Below.drew (Below.refl wc.heap.size wc)))
  have HXD := Aside0.mk (show wc.drew.heap[gb]? = some (.cells o.cells.toArray 38 (0, 0)) from HX5.out)
  have HBD := Aside0.mk (show Below w.heap.size w wc.drew from HB5.out.drew)
  obtain ⟨h1, h2⟩ := agree_lose HAG.out o.a
  obtain ⟨q, S', hs⟩ : ∃ q S', loseF S o.a = (q, S') := ⟨_, _, rfl⟩
  obtain ⟨R', hr⟩ : ∃ R', rLose R o.a = R' := ⟨_, rfl⟩
  rw [hs, hr] at h2
  rw [hs] at h1
  dsimp only at h1 h2
  have HNT := Aside0.mk hs
  have HRT := Aside0.mk h1.symm
  have HRJ := Aside0.mk hr
  have HAG2 := Aside0.mk h2
  have eqq : (q == q) = true := by simp
  clear hs hr h1 h2
  clear y0 y3
  go_upto_region 39 with (fail)
  go_region_with (first
    | (go_at_call 30; ((refine (lose_calls HBOD.out.net (by have h1 := HAG.out.len; have h2 := HI100.out; omega) o.a).mono ?_); rintro e w6 hh; rw [HNT.out] at hh; dsimp only at hh; obtain ⟨rfl, v6, hn6, hk6⟩ := hh; have HBO6 := Aside0.mk (HBOD.out.by_net hn6 hk6); have HX6 := Aside0.mk (HBOD.out.box_net hk6 HXD.out); have HB6 := Aside0.mk (HBD.out.trans hk6.below); clear hn6 hk6; have z1 := blk_cell HX6.out 1; have z2 := blk_cell HX6.out 2; simp only [op_cells, List.getElem?_toArray, List.getElem?_cons_zero, List.getElem?_cons_succ] at z1 z2))
    | (go_at_call 31; ((refine (rLose_calls HBO6.out.ref (by have h1 := HAG.out.len; have h0 := HAG.out.rlen; have h2 := HI100.out; omega) o.a).mono ?_); rintro e w7 ⟨he, v7, hn7, hk7⟩; rw [HRT.out] at he; subst he; rw [HRJ.out] at hn7; have HBO7 := Aside0.mk (HBO6.out.by_ref hn7 hk7); have HX7 := Aside0.mk (HBO6.out.box_ref hk7 HX6.out); have HB7 := Aside0.mk (HB6.out.trans hk7.below); clear hn7 hk7)))
  all_goals
    go_wp2
    apply HKA.out
    exact ⟨⟨S', R', _, _, _, HBO7.out, HAG2.out, HX7.out, HB7.out⟩⟩
end Go.Proofs.Ytnggcegfieeonaa.Nx
/- What is proved: what the switch of NetPlays leaves, way by way. No condition but what each theorem says. -/
namespace Go.Proofs.Ytnggcegfieeonaa.Nx
open Go.RowKit Go.Proofs.YtnggcegfieeonaaW.PrintWords Go.Proofs.YtnggcegfieeonaaW.PrintLast Go.Proofs.YtnggcegfieeonaaW.PrintMore
open Go.Proofs.Ytnggcegfieeonaa.PNetPlays
set_option linter.unusedVariables false
set_option linter.unusedSimpArgs false
set_option maxHeartbeats 16000000 in
set_option maxRecDepth 1000000 in
theorem sw_8 (w wc : World) (g r gb i : Nat) (o : OpR) (kk : Int) (S : Net) (R : RNet) (v vr ur : Value) (HBO5 : Aside0 (Both w.heap.size wc g v S r vr ur R)) (HAG : Aside0 (Agree S R i)) (HI100 : Aside0 (i ≤ 100)) (HOW : Aside0 o.ok) (HX5 : Aside0 (wc.heap[gb]? = some (.cells o.cells.toArray 38 (0, 0)))) (HB5 : Aside0 (Below w.heap.size w wc)) (hc9 : kk = 8)
    (c0 c1 c2 c3 c6 c10 c11 c12 c13 c14 c15 c16 c17 c18 c19 c20 c21 c22 c23 c24 c25 c26 c27 c28 c29 c30 c31 c32 c33 c34 c35 c36 c37 c38 c39 c40 c41 c42 c43 c44 c45 c46 c47 c48 c50 c51 c52 c53 c54 c55 c56 c57 c58 c59 c60 c61 c62 c63 c64 c65 c66 c67 c68 c69 c70 c71 c72 c73 c74 c75 c76 c77 c78 c79 c80 c81 c82 c83 c84 c85 c86 c87 c88 c89 c90 c91 c92 c93 c94 c95 c96 c97 c98 c99 c100 c101 c102 c103 c104 c105 c106 c107 c108 c109 c110 c111 c112 c113 c114 c115 c116 c117 c118 c119 c120 c121 c122 c123 c124 c125 c126 c127 c128 c129 c130 c131 c132 c133 c134 c135 c136 c137 c138 c139 c140 c141 c142 c143 c144 c145 c146 c147 c148 c149 c150 c151 c152 c153 c154 c155 c156 c157 c158 c159 c160 c161 c162 c163 c164 c165 c166 c167 c168 c169 c170 c171 c172 c173 c174 c175 c176 c177 c178 c179 c180 c181 c182 c183 c184 c185 c186 c187 c188 c189 c190 c191 c192 c193 c194 c195 c196 c197 c198 c199 c200 c201 c202 c203 c204 c205 c206 c207 c208 c209 c210 c211 c212 c213 c214 c215 c216 c217 c218 c219 c220 c221 c222 c223 c224 c225 c226 c227 c228 c229 c230 c231 c232 c233 c234 c235 c236 c237 c238 c239 c240 c241 c242 c243 : Value) (K : Act → World → Prop) (HKA : Aside0 (∀ (d10 d11 d12 d13 d14 d15 d16 d17 d18 d50 d51 d52 d53 d54 d55 d56 d57 d58 d59 d60 d61 d62 d63 d64 d65 d66 d67 d68 d69 d70 d71 d72 d73 d74 d75 d76 d77 d78 d79 d80 d81 d82 d83 d84 d85 d86 d87 d88 d89 d90 d91 d92 d93 d94 d95 d96 d97 d98 d99 d100 d101 d102 d103 d104 d105 d106 d107 d108 d109 d110 d111 d112 d113 d114 d115 d116 d117 d118 d119 d120 d121 d122 d123 d124 d125 d126 d127 d128 d129 d130 d131 d132 d133 d134 d135 d136 d137 d138 d139 d140 d141 d142 d143 d144 d145 d146 d147 d148 d149 d150 d151 d152 d153 d154 d155 d156 d157 d158 d159 d160 d161 d162 d163 d164 d165 d166 d167 d168 d169 d170 d171 d172 d173 d174 d175 d176 d177 d178 d179 d180 d181 d182 : Value) (w' : World), Half w.heap.size w w' g r gb i o → K ⟨#[c0, c1, c2, c3, .pointer (some ⟨g, 0, none⟩), .pointer (some ⟨r, 0, none⟩), c6, .pointer (some ⟨gb, 0, none⟩), .int .i64 kk, .bool true, d10, d11, d12, d13, d14, d15, d16, d17, d18, c19, c20, c21, c22, c23, c24, c25, c26, c27, c28, c29, c30, c31, c32, c33, c34, c35, c36, c37, c38, c39, c40, c41, c42, c43, c44, c45, c46, c47, c48, .int .i64 kk, d50, d51, d52, d53, d54, d55, d56, d57, d58, d59, d60, d61, d62, d63, d64, d65, d66, d67, d68, d69, d70, d71, d72, d73, d74, d75, d76, d77, d78, d79, d80, d81, d82, d83, d84, d85, d86, d87, d88, d89, d90, d91, d92, d93, d94, d95, d96, d97, d98, d99, d100, d101, d102, d103, d104, d105, d106, d107, d108, d109, d110, d111, d112, d113, d114, d115, d116, d117, d118, d119, d120, d121, d122, d123, d124, d125, d126, d127, d128, d129, d130, d131, d132, d133, d134, d135, d136, d137, d138, d139, d140, d141, d142, d143, d144, d145, d146, d147, d148, d149, d150, d151, d152, d153, d154, d155, d156, d157, d158, d159, d160, d161, d162, d163, d164, d165, d166, d167, d168, d169, d170, d171, d172, d173, d174, d175, d176, d177, d178, d179, d180, d181, d182, c183, c184, c185, c186, c187, c188, c189, c190, c191, c192, c193, c194, c195, c196, c197, c198, c199, c200, c201, c202, c203, c204, c205, c206, c207, c208, c209, c210, c211, c212, c213, c214, c215, c216, c217, c218, c219, c220, c221, c222, c223, c224, c225, c226, c227, c228, c229, c230, c231, c232, c233, c234, c235, c236, c237, c238, c239, c240, c241, c242, c243], []⟩ w')) :
    Code.wp Try.prog swCode (Exit.then K (fun _ _ _ => False)) ⟨#[c0, c1, c2, c3, .pointer (some ⟨g, 0, none⟩), .pointer (some ⟨r, 0, none⟩), c6, .pointer (some ⟨gb, 0, none⟩), .int .i64 kk, .bool true, c10, c11, c12, c13, c14, c15, c16, c17, c18, c19, c20, c21, c22, c23, c24, c25, c26, c27, c28, c29, c30, c31, c32, c33, c34, c35, c36, c37, c38, c39, c40, c41, c42, c43, c44, c45, c46, c47, c48, .int .i64 kk, c50, c51, c52, c53, c54, c55, c56, c57, c58, c59, c60, c61, c62, c63, c64, c65, c66, c67, c68, c69, c70, c71, c72, c73, c74, c75, c76, c77, c78, c79, c80, c81, c82, c83, c84, c85, c86, c87, c88, c89, c90, c91, c92, c93, c94, c95, c96, c97, c98, c99, c100, c101, c102, c103, c104, c105, c106, c107, c108, c109, c110, c111, c112, c113, c114, c115, c116, c117, c118, c119, c120, c121, c122, c123, c124, c125, c126, c127, c128, c129, c130, c131, c132, c133, c134, c135, c136, c137, c138, c139, c140, c141, c142, c143, c144, c145, c146, c147, c148, c149, c150, c151, c152, c153, c154, c155, c156, c157, c158, c159, c160, c161, c162, c163, c164, c165, c166, c167, c168, c169, c170, c171, c172, c173, c174, c175, c176, c177, c178, c179, c180, c181, c182, c183, c184, c185, c186, c187, c188, c189, c190, c191, c192, c193, c194, c195, c196, c197, c198, c199, c200, c201, c202, c203, c204, c205, c206, c207, c208, c209, c210, c211, c212, c213, c214, c215, c216, c217, c218, c219, c220, c221, c222, c223, c224, c225, c226, c227, c228, c229, c230, c231, c232, c233, c234, c235, c236, c237, c238, c239, c240, c241, c242, c243], []⟩ wc := by
  have hu29 := Try.underlying29
  have hu38 := Try.underlying38
  have hu49 := Try.underlying49
  have hz29 := zero29
  have y0 := blk_cell HX5.out 0
  have y1 := blk_cell HX5.out 1
  have y2 := blk_cell HX5.out 2
  have y3 := blk_cell HX5.out 3
  simp only [op_cells, List.getElem?_toArray, List.getElem?_cons_zero, List.getElem?_cons_succ] at y0 y1 y2 y3
  have k4 : (kk == 4) = false := by rw [beq_eq_false_iff_ne]; omega
  have k5 : (kk == 5) = false := by rw [beq_eq_false_iff_ne]; omega
  have k6 : (kk == 6) = false := by rw [beq_eq_false_iff_ne]; omega
  have k7 : (kk == 7) = false := by rw [beq_eq_false_iff_ne]; omega
  have k8 : (kk == 8) = true := by rw [beq_iff_eq]; omega
  clear hc9
  conv => arg 2; whnf
  have HBOD := Aside0.mk (show Both w.heap.size wc.drew g v S r vr ur R from HBO5.out.below (Below.drew (Below.refl wc.heap.size wc)))
  have HXD := Aside0.mk (show wc.drew.heap[gb]? = some (.cells o.cells.toArray 38 (0, 0)) from HX5.out)
  have HBD := Aside0.mk (show Below w.heap.size w wc.drew from HB5.out.drew)
  obtain ⟨h1, h2⟩ := agree_part HAG.out o.a o.b
  obtain ⟨q, S', hs⟩ : ∃ q S', setF S o.a o.b true = (q, S') := ⟨_, _, rfl⟩
  obtain ⟨q', R', hr⟩ : ∃ q' R', rPart R o.a o.b = (q', R') := ⟨_, _, rfl⟩
  rw [hs, hr] at h1 h2
  dsimp only at h1 h2
  subst h1
  have HNT := Aside0.mk hs
  have HRT := Aside0.mk hr
  have HAG2 := Aside0.mk h2
  have eqq : (q == q) = true := by simp
  clear hs hr h2
  clear y0 y3
  go_upto_region 29 with (fail)
  go_region_held3 (fun W => W.cell? ⟨gb, 1, none⟩ = some (.int .i64 o.a) ∧ W.cell? ⟨gb, 2, none⟩ = some (.int .i64 o.b))
    (first | (exact ⟨z1, z2⟩) | (exact ⟨y1, y2⟩) | go_keep)
    (first
    | (go_at_call 14; ((refine (part_calls HBOD.out.net o.a o.b).mono ?_); rintro e w6 hh; rw [HNT.out] at hh; dsimp only at hh; obtain ⟨rfl, hn6, hk6⟩ := hh; have HBO6 := Aside0.mk (HBOD.out.by_net hn6 hk6); have HX6 := Aside0.mk (HBOD.out.box_net hk6 HXD.out); have HB6 := Aside0.mk (HBD.out.trans hk6.below); clear hn6 hk6; have z1 := blk_cell HX6.out 1; have z2 := blk_cell HX6.out 2; simp only [op_cells, List.getElem?_toArray, List.getElem?_cons_zero, List.getElem?_cons_succ] at z1 z2))
    | (go_at_call 27; ((refine (rPart_calls HBO6.out.ref (by have h1 := HAG.out.prs; have h2 := HI100.out; omega) o.a o.b).mono ?_); rintro e w7 hh; rw [HRT.out] at hh; dsimp only at hh; obtain ⟨rfl, v7, hn7, hk7⟩ := hh; have HBO7 := Aside0.mk (HBO6.out.by_ref hn7 hk7); have HX7 := Aside0.mk (HBO6.out.box_ref hk7 HX6.out); have HB7 := Aside0.mk (HB6.out.trans hk7.below); clear hn7 hk7; have z1 := blk_cell HX7.out 1; have z2 := blk_cell HX7.out 2; simp only [op_cells, List.getElem?_toArray, List.getElem?_cons_zero, List.getElem?_cons_succ] at z1 z2)))
  all_goals
    go_wp2
    apply HKA.out
    exact ⟨⟨S', R', _, _, _, HBO7.out, HAG2.out, HX7.out, HB7.out⟩⟩
end Go.Proofs.Ytnggcegfieeonaa.Nx
