/- What is proved: that NetPlays answers true at every input. No condition. -/
import Derived.Test.YtnggcegfieeonaaPme
import Derived.Test.YtnggcegfieeonaaNptail
import Derived.Test.YtnggcegfieeonaaNoncew
namespace Go.Proofs.Ytnggcegfieeonaa.Nx
open Go.RowKit Go.Proofs.YtnggcegfieeonaaW.PrintWords Go.Proofs.YtnggcegfieeonaaW.PrintLast Go.Proofs.YtnggcegfieeonaaW.PrintMore
open Go.Proofs.Ytnggcegfieeonaa.PNetPlays
set_option linter.unusedVariables false
set_option linter.unusedSimpArgs false
theorem lift_wp {P : Program} {c : Code} {Q : Exit → Act → World → Prop} {a : Act} {w : World} (h : Code.wp P c (Exit.then (fun a w => Q .normal a w) (fun _ _ _ => False)) a w) : Code.wp P c Q a w :=
  Code.wp_mono (fun e _ _ hh => by
    cases e <;> first
      | exact hh
      | exact (hh : False).elim) h
/-- A kind of call. -/
def kindF (x : Int) : Int := if Int.tmod x 12 < 0 then Int.tmod x 12 + 12 else Int.tmod x 12
theorem kindF_range (x : Int) : 0 ≤ kindF x ∧ kindF x < 12 := by
  have h1 : Int.tmod x 12 < 12 := Int.tmod_lt_of_pos _ (by omega)
  have h2 : -12 < Int.tmod x 12 := Int.lt_tmod_of_pos x (show (0 : Int) < 12 by omega)
  unfold kindF
  split <;> omega
set_option maxHeartbeats 16000000 in
set_option maxRecDepth 100000 in
theorem NetPlays_walk (w : World) (A : Option Addr) (c : Nat) (l : List OpR) (hin : OpsIn w A l) (hc : l.length ≤ c) :
    Calls Try.prog 7 #[.slice A l.length c] w fun e w' => e = .returned (.bool true) ∧ Below w.heap.size w w' := by
  have HR := Aside0.mk hin
  have HC := Aside0.mk hc
  have hu29 := Try.underlying29
  have hu38 := Try.underlying38
  have hu49 := Try.underlying49
  have hz38 := zero38
  have hz29 := zero29
  have hz49 := zero49
  obtain ⟨n, hn⟩ : ∃ n, n = min 100 l.length := ⟨_, rfl⟩
  have HNN := Aside0.mk hn
  clear hin hc hn
  go_enter Try.func7, Try.ntmps7
  go_upto_block 0 with (first
    | (go_at_call 9; (with_reducible refine (awake_calls w).mono ?_); rintro e w1 ⟨rfl, hb1⟩; have HB1 := Aside0.mk hb1; clear hb1)
    | (go_at_call 10; (with_reducible refine (new_calls w.heap.size w1 HB1.out.size).mono ?_); rintro e w2 ⟨g, rfl, hn, hb2, hg⟩; have HN2 := Aside0.mk hn; have HB2 := Aside0.mk (HB1.out.trans (hb2.mono HB1.out.size)); clear hn hb2 hg)
    | ((with_reducible refine gate_dst (N := 25) rfl ?_); refine box_event ?hg (N := 25) ?hd (cs := #[.slice none 0 0, .int .i64 0, .slice none 0 0]) (t := 49) ?hr ?_; (case hd => rfl); (case hg => rfl); (case hr => first | (go_simp; done) | (go_simp; rfl)); intro r hg w3 hbox hb; have HB3 := Aside0.mk (HB2.out.trans (hb.mono HB2.out.size)); have HBO3 := Aside0.mk (show Both w.heap.size w3 g (.slice none 0 0) emptyNet r (.slice none 0 0) (.slice none 0 0) ⟨[], 0, []⟩ from ⟨HN2.out.below hb, ⟨by have h1 := HB2.out.size; omega, hbox, Kd.R_nil _ _ _ _ _, Kd.R_nil _ _ _ _ _⟩, ne_nil _⟩); clear hbox hb hg))
  go_wp2
  go_loopg [6] n (fun kq v6 wr => ∃ (i : Nat) (S : Net) (R : RNet) (v vr ur : Value), v6 = .int .i64 (i : Int) ∧ Aside0 (kq + i = n) ∧ Aside0 (Both w.heap.size wr g v S r vr ur R) ∧ Aside0 (Agree S R i) ∧ Aside0 (Below w.heap.size w wr))
  case atStart => exact ⟨0, emptyNet, ⟨[], 0, []⟩, _, _, _, rfl, ⟨rfl⟩, HBO3, ⟨agree_start⟩, HB3⟩
  case round =>
    obtain ⟨i, S, R, v, vr, ur, rfl, HI, HBO, HAG, HB⟩ := hrel
    have HRR := Aside0.mk (HR.out.below HB.out)
    go_upto_region 7 with (fail)
    go_cut [35] (fun v35 wc => v35 = .bool (decide (i < n)) ∧ Aside0 (wc = wr))
    case first =>
      have hdec : (decide ((i : Int) < (l.length : Int)) = false ∧ decide (i < l.length) = false ∧ decide (i < n) = false) ∨ (decide ((i : Int) < (l.length : Int)) = true ∧ decide (i < l.length) = true ∧ ((decide ((i : Int) < 100) = false ∧ decide (i < 100) = false ∧ decide (i < n) = false) ∨ (decide ((i : Int) < 100) = true ∧ decide (i < 100) = true ∧ decide (i < n) = true))) := by
        have h1 := HNN.out
        by_cases h : i < l.length
        · by_cases h2 : i < 100
          · exact .inr ⟨decide_eq_true (by omega), decide_eq_true h, .inr ⟨decide_eq_true (by omega), decide_eq_true h2, decide_eq_true (by omega)⟩⟩
          · exact .inr ⟨decide_eq_true (by omega), decide_eq_true h, .inl ⟨decide_eq_false (by omega), decide_eq_false h2, decide_eq_false (by omega)⟩⟩
        · exact .inl ⟨decide_eq_false (by omega), decide_eq_false h, decide_eq_false (by omega)⟩
      rcases hdec with ⟨d1, d2, d3⟩ | ⟨d1, d2, ⟨d3, d4, d5⟩ | ⟨d3, d4, d5⟩⟩
      · have HDE := Aside0.mk d3
        clear d3
        go_wp2
        go_meet
        case rel => exact ⟨by rw [HDE.out], ⟨rfl⟩⟩
      · have HDE := Aside0.mk d5
        clear d5
        go_wp2
        go_meet
        case rel => exact ⟨by rw [HDE.out], ⟨rfl⟩⟩
      · have HDE := Aside0.mk d5
        clear d5
        go_wp2
        go_meet
        case rel => exact ⟨by rw [HDE.out], ⟨rfl⟩⟩
    case rest =>
     obtain ⟨rfl, HWC⟩ := hcut
     obtain rfl := HWC.out
     by_cases hlt : i < n
     · rw [decide_eq_true hlt]
       have p1' : (0 : Int) ≤ (i : Int) := Int.natCast_nonneg _
       have q1' : (i : Int) < (l.length : Int) := by have h1 := HNN.out; omega
       obtain ⟨o, ho⟩ : ∃ o, o = l.getD i zeroOp := ⟨_, rfl⟩
       obtain ⟨ad, ea, hx0, hx1, hx2, hx3⟩ := op_at HRR.out i (by have h1 := HNN.out; omega)
       rw [← ho] at hx0 hx1 hx2 hx3
       have HLT := Aside0.mk hlt
       have HI100 := Aside0.mk (show i ≤ 100 by have h1 := HNN.out; omega)
       have HOW := Aside0.mk (show o.ok by rw [ho, List.getD_eq_getElem?_getD, List.getElem?_eq_getElem (by have h1 := HNN.out; omega)]; exact HR.out.ok _ (List.getElem_mem _))
       have HEW := Aside0.mk (show wrap64 ((i : Int) + 1) = ((i + 1 : Nat) : Int) by have h1 := HI100.out; rw [wrap64]; omega)
       subst ea
       clear ho hlt
       go_upto_region 10 with (first
         | ((with_reducible refine gate_dst (N := 7) rfl ?_); refine box_event ?hg (N := 7) ?hd (cs := #[.int .i64 0, .int .i64 0, .int .i64 0, .string ⟨#[]⟩]) (t := 38) ?hr ?_; (case hd => rfl); (case hg => rfl); (case hr => first | (go_simp; done) | (go_simp; rfl)); intro gb hg w4 hbox hb; have HX4 := Aside0.mk hbox; have HBX4 := Aside0.mk hb; have HG4 := Aside0.mk hg; clear hbox hb hg)
         | (refine store_op rfl (.tmp 7) (.tmp 41) rfl gb _ (by rfl) rfl o (by rfl) HX4.out ?_; intro w5 hx5 hfar5 hb5; have HX5 := Aside0.mk hx5; have HBX5 := Aside0.mk (HBX4.out.trans (hb5.mono (Nat.le_of_eq HG4.out.symm))); clear hx5 hfar5 hb5))
       (try simp only [Act.put, List.setIfInBounds_toArray, List.set_cons_zero, List.set_cons_succ])
       clear hx0 hx1 hx2 hx3
       have HBO5 := Aside0.mk (HBO.out.below HBX5.out)
       have HB5 := Aside0.mk (HB.out.trans (HBX5.out.mono HB.out.size))
       have y0 := blk_cell HX5.out 0
       have y1 := blk_cell HX5.out 1
       have y2 := blk_cell HX5.out 2
       have y3 := blk_cell HX5.out 3
       simp only [op_cells, List.getElem?_toArray, List.getElem?_cons_zero, List.getElem?_cons_succ] at y0 y1 y2 y3
       obtain ⟨kk, hkk⟩ : ∃ kk, kk = kindF o.kind := ⟨_, rfl⟩
       have HKK := Aside0.mk hkk
       have hkr := kindF_range o.kind
       rw [← hkk] at hkr
       have HKR := Aside0.mk hkr
       clear hkr
       clear hkk
       go_upto_if 46 with (fail)
       go_cut [8] (fun v8 wc => v8 = .int .i64 kk ∧ Aside0 (wc = w5))
       case first =>
         have h1 : Int.tmod o.kind 12 < 12 := Int.tmod_lt_of_pos _ (by omega)
         have h2 : -12 < Int.tmod o.kind 12 := Int.lt_tmod_of_pos o.kind (show (0 : Int) < 12 by omega)
         have hke := HKK.out
         unfold kindF at hke
         by_cases hneg : Int.tmod o.kind 12 < 0
         · rw [if_pos hneg] at hke
           have HKE := Aside0.mk (show wrap64 (Int.tmod o.kind 12 + 12) = kk by rw [hke]; unfold wrap64; omega)
           rw [decide_eq_true hneg]
           clear hke hneg h1 h2
           go_wp2
           go_meet
           case rel => exact ⟨by have h := HKE.out; rw [h], ⟨rfl⟩⟩
         · rw [if_neg hneg] at hke
           have HKE := Aside0.mk hke
           rw [decide_eq_false hneg]
           clear hke hneg h1 h2
           go_wp2
           go_meet
           case rel => exact ⟨by rw [HKE.out], ⟨rfl⟩⟩
       case rest =>
         obtain ⟨rfl, HWC2⟩ := hcut
         obtain rfl := HWC2.out
         clear HKK
         go_upto_block 2 with (fail)
         refine lift_wp ?_
         refine sw_all w wc g r gb i o kk S R v vr ur HBO5 HAG HI100 HOW HX5 HB5 HKR.out _ _ _ _ _ _ _ _ _ _ _ _ _ _ _ _ _ _ _ _ _ _ _ _ _ _ _ _ _ _ _ _ _ _ _ _ _ _ _ _ _ _ _ _ _ _ _ _ _ _ _ _ _ _ _ _ _ _ _ _ _ _ _ _ _ _ _ _ _ _ _ _ _ _ _ _ _ _ _ _ _ _ _ _ _ _ _ _ _ _ _ _ _ _ _ _ _ _ _ _ _ _ _ _ _ _ _ _ _ _ _ _ _ _ _ _ _ _ _ _ _ _ _ _ _ _ _ _ _ _ _ _ _ _ _ _ _ _ _ _ _ _ _ _ _ _ _ _ _ _ _ _ _ _ _ _ _ _ _ _ _ _ _ _ _ _ _ _ _ _ _ _ _ _ _ _ _ _ _ _ _ _ _ _ _ _ _ _ _ _ _ _ _ _ _ _ _ _ _ _ _ _ _ _ _ _ _ _ _ _ _ _ _ _ _ _ _ _ _ _ _ _ _ _ _ _ _ _ _ _ _ _ _ _ _ _ _ _ _ ⟨?_⟩
         intro d10 d11 d12 d13 d14 d15 d16 d17 d18 d50 d51 d52 d53 d54 d55 d56 d57 d58 d59 d60 d61 d62 d63 d64 d65 d66 d67 d68 d69 d70 d71 d72 d73 d74 d75 d76 d77 d78 d79 d80 d81 d82 d83 d84 d85 d86 d87 d88 d89 d90 d91 d92 d93 d94 d95 d96 d97 d98 d99 d100 d101 d102 d103 d104 d105 d106 d107 d108 d109 d110 d111 d112 d113 d114 d115 d116 d117 d118 d119 d120 d121 d122 d123 d124 d125 d126 d127 d128 d129 d130 d131 d132 d133 d134 d135 d136 d137 d138 d139 d140 d141 d142 d143 d144 d145 d146 d147 d148 d149 d150 d151 d152 d153 d154 d155 d156 d157 d158 d159 d160 d161 d162 d163 d164 d165 d166 d167 d168 d169 d170 d171 d172 d173 d174 d175 d176 d177 d178 d179 d180 d181 d182 w6 HHF
         have HH6 := Aside0.mk HHF
         clear HHF y0 y1 y2 y3
         dsimp only [Exit.then]
         apply_assumption
         refine lift_wp ?_
         refine tail_walk w w6 g r gb i o HH6 ⟨by have h1 := HNN.out; have h2 := HLT.out; omega⟩ _ _ _ _ _ _ _ _ _ _ _ _ _ _ _ _ _ _ _ _ _ _ _ _ _ _ _ _ _ _ _ _ _ _ _ _ _ _ _ _ _ _ _ _ _ _ _ _ _ _ _ _ _ _ _ _ _ _ _ _ _ _ _ _ _ _ _ _ _ _ _ _ _ _ _ _ _ _ _ _ _ _ _ _ _ _ _ _ _ _ _ _ _ _ _ _ _ _ _ _ _ _ _ _ _ _ _ _ _ _ _ _ _ _ _ _ _ _ _ _ _ _ _ _ _ _ _ _ _ _ _ _ _ _ _ _ _ _ _ _ _ _ _ _ _ _ _ _ _ _ _ _ _ _ _ _ _ _ _ _ _ _ _ _ _ _ _ _ _ _ _ _ _ _ _ _ _ _ _ _ _ _ _ _ _ _ _ _ _ _ _ _ _ _ _ _ _ _ _ _ _ _ _ _ _ _ _ _ _ _ _ _ _ _ _ _ _ _ _ _ _ _ _ _ _ _ _ _ _ _ _ _ _ _ _ _ _ _ _ _ _ ⟨?_⟩
         intro e2 e19 e20 e21 e183 e184 e185 e186 e187 e188 e189 e190 e191 e192 e193 e194 e195 e196 e197 e198 e199 e200 e201 e202 e203 e204 e205 e206 e207 e208 e209 e210 e211 e212 e213 e214 e215 e216 e217 e218 e219 e220 e221 e222 e223 e224 e225 e226 e227 e228 e229 e230 e231 e232 e233 e234 e235 e236 e237 e238 e239 e240 e241 e242 w7 HDN
         obtain ⟨S7, R7, v7, vr7, ur7, k1, k2, k3⟩ := HDN.out
         have HBO7 := Aside0.mk k1
         have HAG7 := Aside0.mk k2
         have HB7 := Aside0.mk k3
         clear k1 k2 k3 HDN
         dsimp only [Exit.then]
         go_wp2
         go_roundg (gk - 1)
         case measure => have h1 := HI.out; have h2 := HLT.out; omega
         case rel => exact ⟨i + 1, S7, R7, v7, vr7, ur7, by rw [HEW.out], ⟨by have h1 := HI.out; have h2 := HLT.out; omega⟩, HBO7, HAG7, HB7⟩
     · rw [decide_eq_false hlt]
       clear hlt
       go_wp2
       go_ret
       exact ⟨rfl, HB.out⟩
theorem NetPlays_all (W : World) (A : Option Addr) (c : Nat) (l : List OpR) (hr : OpsIn W A l) (hc : l.length ≤ c) :
    Calls Try.prog 7 #[.slice A l.length c] W fun e w' => e = .returned (.bool true) ∧ Below W.heap.size W w' := NetPlays_walk W A c l hr hc
end Go.Proofs.Ytnggcegfieeonaa.Nx
