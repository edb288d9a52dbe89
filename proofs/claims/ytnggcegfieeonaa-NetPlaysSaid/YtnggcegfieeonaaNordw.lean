/- What is proved: that NetOrder answers true at every input. No condition. -/
import Derived.Test.YtnggcegfieeonaaNordp
namespace Go.Proofs.Ytnggcegfieeonaa.Nx
open Go.RowKit Go.Proofs.YtnggcegfieeonaaW.PrintWords Go.Proofs.YtnggcegfieeonaaW.PrintLast Go.Proofs.YtnggcegfieeonaaW.PrintMore
open Go.Proofs.Ytnggcegfieeonaa.PNetFull
set_option linter.unusedVariables false
set_option linter.unusedSimpArgs false
/-- A row of numbers lives on where another row grows. -/
theorem R_beside {W w1 : World} {base : Nat} {u v : Value} {xs : List Int} (h : Kd.R (Kd.int .i64) 3 W base (fun _ => True) u xs) (hn : NeRow u v) (hg : W.grownBy w1 v.ownBlock) : Kd.R (Kd.int .i64) 3 w1 base (fun _ => True) u xs :=
  Kd.R_mono (Kd.R_grown (Kd.R_tight rfl h) hg fun k hk e => hn k hk.symm e.symm) fun _ _ => trivial
theorem ne_grown {W : World} {base : Nat} {v v1 u : Value} {xs : List Int} (h : NeRow v u) (hat : v1.ownBlock = v.ownBlock ∨ ∃ b, v1.ownBlock = some b ∧ W.heap.size ≤ b) (ho : Kd.R (Kd.int .i64) 3 W base (fun _ => True) u xs) : NeRow v1 u := by
  obtain ⟨inner, hi⟩ := Kd.R_own ho
  exact ne_append h hat hi
theorem OrdOk.olen {a b : Int} {st : Ord} {i : Nat} (h : OrdOk a b st i) : st.opened.length ≤ i := by
  have h1 := List.length_filter_le (opn st.net.P) st.net.mail
  have h2 := h.len
  rw [h.opened, List.length_map]
  omega
theorem OrdOk.slen {a b : Int} {st : Ord} {i : Nat} (h : OrdOk a b st i) : st.shut.length ≤ i := by
  have h1 := List.length_filter_le (fun m => !opn st.net.P m) st.net.mail
  have h2 := h.len
  rw [h.shut, List.length_map]
  omega
theorem ops_len {l : List OpR} {W : World} {A : Option Addr} (h : OpsIn W A l) (i : Nat) (hi : i < l.length) : ∃ ad, A = some ad ∧ W.cell? ⟨(ad.add (i * 4)).block, (ad.add (i * 4)).off + 1, none⟩ = some (.int .i64 (l.getD i zeroOp).a) ∧ W.cell? ⟨(ad.add (i * 4)).block, (ad.add (i * 4)).off + 2, none⟩ = some (.int .i64 (l.getD i zeroOp).b) ∧ W.cell? ⟨(ad.add (i * 4)).block, (ad.add (i * 4)).off + 3, none⟩ = some (.string (l.getD i zeroOp).body) := by
  obtain ⟨ad, ea, hc⟩ := C_opat h.row i hi
  refine ⟨ad, ea, ?_, ?_, ?_⟩
  · rw [← add_field ad (i * 4) 1 (by decide)]; exact hc 1 _ rfl
  · rw [← add_field ad (i * 4) 2 (by decide)]; exact hc 2 _ rfl
  · rw [← add_field ad (i * 4) 3 (by decide)]; exact hc 3 _ rfl
set_option maxHeartbeats 16000000 in
set_option maxRecDepth 100000 in
theorem NetOrder_walk (w : World) (A : Option Addr) (c : Nat) (l : List OpR) (hin : OpsIn w A l) (hc : l.length ≤ c) (p0 p1 : Int) :
    Calls Try.prog 5 #[.slice A l.length c, .agg #[.int .i64 p0, .int .i64 p1]] w fun e w' => e = .returned (.bool true) ∧ Below w.heap.size w w' := by
  have HR := Aside0.mk hin
  have HC := Aside0.mk hc
  have hu29 := Try.underlying29
  have hu36 := Try.underlying36
  have hu38 := Try.underlying38
  obtain ⟨n, hn⟩ : ∃ n, n = min 30 l.length := ⟨_, rfl⟩
  have HNN := Aside0.mk hn
  obtain ⟨a, ha⟩ : ∃ a, bits .and .i64 p0 3 = a := ⟨_, rfl⟩
  obtain ⟨b, hb⟩ : ∃ b, bits .and .i64 p1 3 = b := ⟨_, rfl⟩
  have HA := Aside0.mk (show 0 ≤ a ∧ a < 4 by rw [← ha]; exact and3_range p0)
  have HBB := Aside0.mk (show 0 ≤ b ∧ b < 4 by rw [← hb]; exact and3_range p1)
  clear hin hc hn
  go_enter Try.func5, Try.ntmps5
  go_upto_block 0 with (first
    | ((with_reducible refine gate_dst (N := 3) rfl ?_); refine box_event ?hg (N := 3) ?hd (cs := #[.int .i64 p0, .int .i64 p1]) (t := 36) ?hr ?_; (case hd => rfl); (case hg => rfl); (case hr => first | (go_simp; done) | (go_simp; rfl)); intro gp hg w0 hbox hb0; have HB0 := Aside0.mk hb0; have HX0 := Aside0.mk hbox; clear hbox hb0 hg)
    | (go_at_call 9; (with_reducible refine (awake_calls w0).mono ?_); rintro e w1 ⟨rfl, hb1⟩; have HB1 := Aside0.mk (HB0.out.trans (hb1.mono HB0.out.size)); have HX1 := Aside0.mk ((hb1.block gp (blk_lt HX0.out)).trans HX0.out); clear hb1)
    | (go_at_call 10; (with_reducible refine (new_calls w.heap.size w1 HB1.out.size).mono ?_); rintro e w2 ⟨g, rfl, hn, hb2, hg⟩; have HN2 := Aside0.mk hn; have HB2 := Aside0.mk (HB1.out.trans (hb2.mono HB1.out.size)); have HX2 := Aside0.mk ((hb2.block gp (blk_lt HX1.out)).trans HX1.out); have x0 := blk_cell HX2.out 0; have x1 := blk_cell HX2.out 1; simp only [List.getElem?_toArray, List.getElem?_cons_zero, List.getElem?_cons_succ] at x0 x1; clear hn hb2 hg)
    | (go_at_call 14; (with_reducible refine (part_calls HN2.out a b).mono ?_); rintro e w3 ⟨rfl, hn, hk⟩; have HN3 := Aside0.mk (show NetAt w.heap.size w3 g (.slice none 0 0) (ordS a b l 0).net from hn); have HB3 := Aside0.mk (HB2.out.trans hk.below); clear hn hk x0 x1))
  clear ha hb
  go_wp2
  go_loopg [9, 10, 11] n (fun kq v9 v10 v11 wr => ∃ (i : Nat) (vs : Value), v11 = .int .i64 (i : Int) ∧ Aside0 (kq + i = n) ∧ Aside0 (NetAt w.heap.size wr g vs (ordS a b l i).net) ∧ Aside0 (Kd.R (Kd.int .i64) 3 wr w.heap.size (fun _ => True) v9 (ordS a b l i).opened) ∧ Aside0 (Kd.R (Kd.int .i64) 3 wr w.heap.size (fun _ => True) v10 (ordS a b l i).shut) ∧ Aside0 (NeRow v9 v10) ∧ Aside0 (Below w.heap.size w wr))
  case atStart => exact ⟨0, _, rfl, ⟨rfl⟩, HN3, ⟨Kd.R_nil _ _ _ _ _⟩, ⟨Kd.R_nil _ _ _ _ _⟩, ⟨ne_nil _⟩, HB3⟩
  case round =>
    obtain ⟨i, vs, rfl, HI, HN, HO, HS, HNE, HB⟩ := hrel
    obtain ⟨ko, hko⟩ : ∃ k, k = gk := ⟨gk, rfl⟩
    have HKO := Aside0.mk hko
    clear hko
    have HRR := Aside0.mk (HR.out.below HB.out)
    by_cases hlt : i < n
    · have f1 : decide ((i : Int) < (l.length : Int)) = true := decide_eq_true (by have h1 := HNN.out; omega)
      have f2 : decide (i < l.length) = true := decide_eq_true (by have h1 := HNN.out; omega)
      have f3 : decide ((i : Int) < 30) = true := decide_eq_true (by have h1 := HNN.out; omega)
      have f4 : decide (i < 30) = true := decide_eq_true (by have h1 := HNN.out; omega)
      have p1' : (0 : Int) ≤ (i : Int) := Int.natCast_nonneg _
      have q1' : (i : Int) < (l.length : Int) := by have h1 := HNN.out; omega
      obtain ⟨o, ho⟩ : ∃ o, o = l.getD i zeroOp := ⟨_, rfl⟩
      obtain ⟨ad, ea, hx1, hx2, hx3⟩ := ops_len HRR.out i (by have h1 := HNN.out; omega)
      rw [← ho] at hx1 hx2 hx3
      have HOP := Aside0.mk ho
      have HLT := Aside0.mk hlt
      have HST := Aside0.mk (show ordS a b l (i + 1) = ordStep a b (ordS a b l i) o by rw [ordS, ho])
      have HOK := Aside0.mk (ord_ok a b HA.out HBB.out l i (by have h1 := HNN.out; omega))
      have HOK2 := Aside0.mk (ord_ok a b HA.out HBB.out l (i + 1) (by have h1 := HNN.out; omega))
      obtain ⟨st, hst⟩ : ∃ st, st = ordS a b l i := ⟨_, rfl⟩
      rw [← hst] at HN HO HS HST HOK
      subst ea
      clear ho hlt hst
      obtain ⟨x, hx⟩ : ∃ x, bits .and .i64 o.a 3 = x := ⟨_, rfl⟩
      obtain ⟨y, hy⟩ : ∃ y, bits .and .i64 o.b 3 = y := ⟨_, rfl⟩
      have HX := Aside0.mk (show and3 o.a = x from hx)
      have HY := Aside0.mk (show and3 o.b = y from hy)
      have HSH := Aside0.mk (show PNetPlays.heliographlaw14_short.f o.body 60 = some (cutTo o.body 60) from short_told o.body 60)
      have hxr := and3_range o.a
      have hyr := and3_range o.b
      rw [HX.out] at hxr
      rw [HY.out] at hyr
      have HSF := Aside0.mk (sendF_two st.net x y (cutTo o.body 60) hxr hyr (cutTo_size _ _) (by have h1 := HOK.out.len; have h2 := HLT.out; have h3 := HNN.out; omega))
      have ew : wrap64 ((i : Int) + 1) = ((i + 1 : Nat) : Int) := by have h1 := HLT.out; have h3 := HNN.out; rw [wrap64]; omega
      have HEW := Aside0.mk ew
      clear ew hxr hyr
      by_cases hxy : x = y
      · have HS1 := Aside0.mk (show ordS a b l (i + 1) = st by rw [HST.out, ordStep, if_pos (by rw [HX.out, HY.out]; exact hxy)])
        have HSG := HSF.out
        rw [if_pos hxy] at HSG
        have HSH2 := Aside0.mk HSG
        clear HSG
        subst hxy
        go_wp2_with (first
          | (go_at_call 15; ((with_reducible refine (PNetPlays.heliographlaw14_short.calls o.body 60 (cutTo o.body 60) _ HSH.out).mono ?_); rintro e w4 ⟨rfl, ⟨nd, rfl⟩⟩))
          | (go_at_call 11; ((with_reducible refine (send_calls (HN.out.drewN nd) x x (cutTo o.body 60)).mono ?_); rintro e w6 hh; rw [HSH2.out] at hh; dsimp only at hh; obtain ⟨rfl, v6, hn6, hk6⟩ := hh; have HN6 := Aside0.mk hn6; have HO6 := Aside0.mk (R_kp (Kd.R_drewN HO.out nd) (HN.out.drewN nd) hk6 (by decide)); have HS6 := Aside0.mk (R_kp (Kd.R_drewN HS.out nd) (HN.out.drewN nd) hk6 (by decide)); have HB6 := Aside0.mk ((pw_below_drewN HB.out nd).trans hk6.below); clear hn6 hk6)))
        go_roundg (gk - 1)
        case measure => have h1 := HI.out; have h2 := HLT.out; omega
        case rel => exact ⟨i + 1, v6, by have h := HEW.out; rw [h], ⟨by have h1 := HI.out; have h2 := HLT.out; omega⟩, ⟨by rw [HS1.out]; exact HN6.out⟩, ⟨by rw [HS1.out]; exact HO6.out⟩, ⟨by rw [HS1.out]; exact HS6.out⟩, HNE, HB6⟩
      · have HSG := HSF.out
        rw [if_neg hxy] at HSG
        obtain ⟨d, hd⟩ : ∃ d, d = wrap64 (st.net.last + 1) := ⟨_, rfl⟩
        obtain ⟨S', hS'⟩ : ∃ S' : Net, S' = { st.net with mail := st.net.mail ++ [⟨wrap64 (st.net.last + 1), x, y, cutTo o.body 60, st.net.now⟩], last := wrap64 (st.net.last + 1) } := ⟨_, rfl⟩
        rw [← hS', ← hd] at HSG
        have HSH2 := Aside0.mk HSG
        have e1 : (x != y) = true := bne_iff_ne.2 hxy
        have HXY := Aside0.mk hxy
        clear HSG hd hS' hxy
        go_upto_region 19 with (first
          | (go_at_call 15; ((with_reducible refine (PNetPlays.heliographlaw14_short.calls o.body 60 (cutTo o.body 60) _ HSH.out).mono ?_); rintro e w4 ⟨rfl, ⟨nd, rfl⟩⟩))
          | (go_at_call 11; ((with_reducible refine (send_calls (HN.out.drewN nd) x y (cutTo o.body 60)).mono ?_); rintro e w6 hh; rw [HSH2.out] at hh; dsimp only at hh; obtain ⟨rfl, v6, hn6, hk6⟩ := hh; have HN6 := Aside0.mk hn6; have HO6 := Aside0.mk (R_kp (Kd.R_drewN HO.out nd) (HN.out.drewN nd) hk6 (by decide)); have HS6 := Aside0.mk (R_kp (Kd.R_drewN HS.out nd) (HN.out.drewN nd) hk6 (by decide)); have HB6 := Aside0.mk ((pw_below_drewN HB.out nd).trans hk6.below); clear hn6 hk6)))
        go_cut [97] (fun v97 wc => v97 = .bool (pq a b x y) ∧ Aside0 (wc = w6))
        case first =>
          cases k1 : (x == a) <;> cases k2 : (y == b) <;> cases k3 : (x == b) <;> cases k4 : (y == a)
          all_goals
            have HPQ := Aside0.mk (show pq a b x y = (((x == a) && (y == b)) || ((x == b) && (y == a))) from rfl)
            rw [k1, k2, k3, k4] at HPQ
            go_wp2
            go_meet
            case rel => exact ⟨by rw [HPQ.out]; rfl, ⟨rfl⟩⟩
        case rest =>
          obtain ⟨rfl, HWC⟩ := hcut
          obtain rfl := HWC.out
          by_cases hp : pq a b x y = true
          · have HS1 := Aside0.mk (show ordS a b l (i + 1) = ⟨S', st.opened, st.shut ++ [d]⟩ by rw [HST.out, ordStep, if_neg (by rw [HX.out, HY.out]; exact HXY.out), HX.out, HY.out, if_pos hp, HSH2.out])
            rw [hp]
            clear hp
            go_wp2_with (first
              | ((with_reducible refine gate_builtin (b := .append) (xs := #[.tmp 98, .tmp 100]) rfl ?_); at_builtin; refine Kd.R_append (Kd.int .i64) (w0 := w) w.heap.size rfl (.tmp 98) (.tmp 100) 35 3 (.int .i64 0) 8 rfl Try.underlying35 info3 rfl (by decide) (by omega) _ st.shut d [.int .i64 d] (fun _ => True) (fun _ => False) rfl rfl ?aP (fun _ hk => hk.elim) ?aF ?aO ?aB ?aS ?aL ?_; (case aP => exact rfl); (case aB => exact HB6.out); (case aF => exact (fun _ _ => trivial)); (case aO => exact HS6.out); (case aS => exact HB6.out.size); (case aL => have h1 := HOK.out.slen; have h2 := HLT.out; have h3 := HNN.out; omega); intro v391 w18 ho hb hg hat; have HS7 := Aside0.mk ho; have HB7 := Aside0.mk hb; have HN7 := Aside0.mk (HN6.out.other hg (Kd.R_typed HS6.out) (by decide) (by decide)); have HO7 := Aside0.mk (R_beside HO6.out HNE.out hg); have HNE7 := Aside0.mk (ne_symm (ne_grown (ne_symm HNE.out) hat HO6.out)); clear ho hb hg hat))
            go_roundg (gk - 1)
            case measure => have h1 := HI.out; have h2 := HLT.out; omega
            case rel => exact ⟨i + 1, v6, by have h := HEW.out; rw [h], ⟨by have h1 := HI.out; have h2 := HLT.out; omega⟩, ⟨by rw [HS1.out]; exact HN7.out⟩, ⟨by rw [HS1.out]; exact HO7.out⟩, ⟨by rw [HS1.out]; exact HS7.out⟩, HNE7, HB7⟩
          · have HS1 := Aside0.mk (show ordS a b l (i + 1) = ⟨S', st.opened ++ [d], st.shut⟩ by rw [HST.out, ordStep, if_neg (by rw [HX.out, HY.out]; exact HXY.out), HX.out, HY.out, if_neg hp, HSH2.out])
            rw [Bool.not_eq_true] at hp
            rw [hp]
            clear hp
            go_wp2_with (first
              | ((with_reducible refine gate_builtin (b := .append) (xs := #[.tmp 102, .tmp 104]) rfl ?_); at_builtin; refine Kd.R_append (Kd.int .i64) (w0 := w) w.heap.size rfl (.tmp 102) (.tmp 104) 35 3 (.int .i64 0) 8 rfl Try.underlying35 info3 rfl (by decide) (by omega) _ st.opened d [.int .i64 d] (fun _ => True) (fun _ => False) rfl rfl ?bP (fun _ hk => hk.elim) ?bF ?bO ?bB ?bS ?bL ?_; (case bP => exact rfl); (case bB => exact HB6.out); (case bF => exact (fun _ _ => trivial)); (case bO => exact HO6.out); (case bS => exact HB6.out.size); (case bL => have h1 := HOK.out.olen; have h2 := HLT.out; have h3 := HNN.out; omega); intro v391 w18 ho hb hg hat; have HO7 := Aside0.mk ho; have HB7 := Aside0.mk hb; have HN7 := Aside0.mk (HN6.out.other hg (Kd.R_typed HO6.out) (by decide) (by decide)); have HS7 := Aside0.mk (R_beside HS6.out (ne_symm HNE.out) hg); have HNE7 := Aside0.mk (ne_grown HNE.out hat HS6.out); clear ho hb hg hat))
            go_roundg (gk - 1)
            case measure => have h1 := HI.out; have h2 := HLT.out; omega
            case rel => exact ⟨i + 1, v6, by have h := HEW.out; rw [h], ⟨by have h1 := HI.out; have h2 := HLT.out; omega⟩, ⟨by rw [HS1.out]; exact HN7.out⟩, ⟨by rw [HS1.out]; exact HO7.out⟩, ⟨by rw [HS1.out]; exact HS7.out⟩, HNE7, HB7⟩
    · obtain rfl : i = n := by have h1 := HI.out; omega
      have HI30 := Aside0.mk (show i ≤ 30 by have h1 := HNN.out; omega)
      have HOK := Aside0.mk (ord_ok a b HA.out HBB.out l i HI30.out)
      have HF : (decide ((i : Int) < (l.length : Int)) = false ∧ decide (i < l.length) = false) ∨ (decide ((i : Int) < (l.length : Int)) = true ∧ decide (i < l.length) = true ∧ decide ((i : Int) < 30) = false ∧ decide (i < 30) = false) := by
        have h1 := HNN.out
        by_cases h : i < l.length
        · exact .inr ⟨decide_eq_true (by omega), decide_eq_true h, decide_eq_false (by omega), decide_eq_false (by omega)⟩
        · exact .inl ⟨decide_eq_false (by omega), decide_eq_false h⟩
      obtain ⟨st, hst⟩ : ∃ st, st = ordS a b l i := ⟨_, rfl⟩
      rw [← hst] at HN HO HS HOK
      obtain ⟨A9, c9, e9⟩ := Kd.R_slice HO.out
      subst e9
      obtain ⟨A10, c10, e10⟩ := Kd.R_slice HS.out
      subst e10
      obtain ⟨no, hno⟩ : ∃ no, no = st.opened.length := ⟨_, rfl⟩
      obtain ⟨ns, hns⟩ : ∃ ns, ns = st.shut.length := ⟨_, rfl⟩
      rw [← hno] at HO ⊢
      rw [← hns] at HS ⊢
      have HNO := Aside0.mk hno
      have HNS := Aside0.mk hns
      have HNO30 := Aside0.mk (show no ≤ 30 by have h1 := HOK.out.olen; have h2 := HI30.out; omega)
      have HNS30 := Aside0.mk (show ns ≤ 30 by have h1 := HOK.out.slen; have h2 := HI30.out; omega)
      have hz9 := zero29
      clear hst hno hns hlt
      rcases HF with ⟨f1, f2⟩ | ⟨f1, f2, f3, f4⟩
      all_goals
        go_wp2
        go_loopg [16] no (fun kq v16 wl => ∃ (j : Nat) (vt : Value), v16 = .int .i64 (j : Int) ∧ Aside0 (kq + j = no) ∧ Aside0 (NetAt w.heap.size wl g vt (firsts st.net j)) ∧ Aside0 (Kd.R (Kd.int .i64) 3 wl w.heap.size (fun _ => True) (.slice A9 no c9) st.opened) ∧ Aside0 (Kd.R (Kd.int .i64) 3 wl w.heap.size (fun _ => True) (.slice A10 ns c10) st.shut) ∧ Aside0 (Below w.heap.size w wl))
        case atStart => exact ⟨0, vs, rfl, ⟨rfl⟩, HN, HO, HS, HB⟩
        case round =>
          obtain ⟨j, vt, rfl, HJ, HNj, HOj, HSj, HBj⟩ := hrel
          by_cases hlt : j < no
          · have g1 : decide ((j : Int) < (no : Int)) = true := decide_eq_true (by omega)
            have g2 : decide (j < no) = true := decide_eq_true hlt
            obtain ⟨htk, hid⟩ := ord_take HOK.out j (by have h1 := HNO.out; omega)
            have hgood := ord_net HOK.out j (by have h1 := HNO.out; omega)
            obtain ⟨m, hm⟩ : ∃ m, m = told (firsts st.net j) ((st.net.mail.filter (opn st.net.P)).getD j zeroMail) := ⟨_, rfl⟩
            rw [← hm] at htk hid
            obtain ⟨q, hq⟩ : ∃ q, q = st.opened.getD j 0 := ⟨_, rfl⟩
            rw [← hq] at hid
            have HTK := Aside0.mk htk
            have HGD := Aside0.mk hgood.1
            have HLN := Aside0.mk (show (firsts st.net j).mail.length < 1000000 by have h1 := hgood.2; have h2 := HI30.out; omega)
            have HID := Aside0.mk hid
            have HQ := Aside0.mk hq
            obtain ⟨b9, cc9, e9, _⟩ := R_plain HOj.out (by have h1 := HNO.out; omega)
            injection e9 with e91 e92 e93
            subst e91
            have p1 : (0 : Int) ≤ (j : Int) := Int.natCast_nonneg _
            have q1 : (j : Int) < (no : Int) := by omega
            have HLT := Aside0.mk hlt
            have eqq : (q != q) = false := by simp
            clear htk hgood hid hq hm hlt e92 e93
            go_upto_region 26 with (first
              | (go_at_call 13; ((with_reducible refine (take_calls HNj.out HGD.out HLN.out 0 (by decide)).mono ?_); rintro e w8 hh; rw [HTK.out] at hh; dsimp only at hh; obtain ⟨he, v8, hn8, hk8⟩ := hh; obtain rfl : e = .returned (.tuple #[.agg #[.int .i64 m.id, .int .i64 m.frm, .int .i64 m.to_, .string m.body, .int .i64 m.age], .bool true]) := he; have HN8 := Aside0.mk hn8; have HO8 := Aside0.mk (R_kp HOj.out HNj.out hk8 (by decide)); have HS8 := Aside0.mk (R_kp HSj.out HNj.out hk8 (by decide)); have HB8 := Aside0.mk (HBj.out.trans hk8.below); clear hn8 hk8))
              | ((with_reducible refine gate_dst (N := 17) rfl ?_); refine box_event ?hg (N := 17) ?hd (cs := #[.int .i64 0, .int .i64 0, .int .i64 0, .string ⟨#[]⟩, .int .i64 0]) (t := 29) ?hr ?_; (case hd => rfl); (case hg => rfl); (case hr => first | (go_simp; done) | (go_simp; rfl)); intro gb hg w9 hbox hb; have HX9 := Aside0.mk hbox; have HBX9 := Aside0.mk hb; have HG9 := Aside0.mk hg; clear hbox hb hg)
              | (refine store_box rfl (.tmp 17) (.tmp 115) rfl gb _ (by rfl) rfl m (by rfl) HX9.out ?_; intro w10 hx10 hfar10 hb10; have HX10 := Aside0.mk hx10; have HBX10 := Aside0.mk (HBX9.out.trans (hb10.mono (Nat.le_of_eq HG9.out.symm))); clear hx10 hfar10 hb10))
            (try simp only [Act.put, List.setIfInBounds_toArray, List.set_cons_zero, List.set_cons_succ])
            have HN10 := Aside0.mk (HN8.out.below HBX10.out)
            have HO10 := Aside0.mk (Kd.R_below HO8.out HBX10.out)
            have HS10 := Aside0.mk (Kd.R_below HS8.out HBX10.out)
            have HB10 := Aside0.mk (HB8.out.trans (HBX10.out.mono HB8.out.size))
            have y0 := blk_cell HX10.out 0
            simp only [mail_cells, List.getElem?_toArray, List.getElem?_cons_zero, List.getElem?_cons_succ] at y0
            rw [HID.out] at y0
            have x9 := R_intat HO10.out j (by have h1 := HNO.out; have h2 := HLT.out; omega)
            rw [← HQ.out] at x9
            go_quiet (fail)
            all_goals
              clear x9 y0
              go_wp2
              go_roundg (gk - 1)
              case measure => have h1 := HJ.out; have h2 := HLT.out; omega
              case rel => exact ⟨j + 1, v8, by have h3 := HNO30.out; have h2 := HLT.out; rw [show wrap64 ((j : Int) + 1) = ((j + 1 : Nat) : Int) by rw [wrap64]; omega], ⟨by have h1 := HJ.out; have h2 := HLT.out; omega⟩, ⟨HN10.out.drewN _⟩, ⟨Kd.R_drewN HO10.out _⟩, ⟨Kd.R_drewN HS10.out _⟩, ⟨pw_below_drewN HB10.out _⟩⟩
          · obtain rfl : j = no := by have h1 := HJ.out; omega
            have g1 : decide ((j : Int) < (j : Int)) = false := decide_eq_false (by omega)
            have g2 : decide (j < j) = false := decide_eq_false (by omega)
            have HNT := Aside0.mk (show NetAt w.heap.size wr g vt (ordT st) by have h1 := HNj.out; rw [HNO.out] at h1; exact h1)
            have HTN := Aside0.mk (ord_none HOK.out)
            have hgd := ord_net HOK.out st.opened.length (Nat.le_refl _)
            have HGD := Aside0.mk (show (ordT st).Good from hgd.1)
            have HLN := Aside0.mk (show (ordT st).mail.length < 1000000 by have h1 := hgd.2; have h2 := HI30.out; exact Nat.lt_of_le_of_lt h1 (by omega))
            clear hlt hgd
            go_wp2_with (first
              | (go_at_call 13; ((with_reducible refine (take_calls HNT.out HGD.out HLN.out 0 (by decide)).mono ?_); rintro e w8 hh; rw [HTN.out] at hh; dsimp only at hh; obtain ⟨he, v8, hn8, hk8⟩ := hh; obtain rfl : e = .returned (.tuple #[.agg #[.int .i64 0, .int .i64 0, .int .i64 0, .string ⟨#[]⟩, .int .i64 0], .bool false]) := he; have HN8 := Aside0.mk hn8; have HS8 := Aside0.mk (R_kp HSj.out HNT.out hk8 (by decide)); have HB8 := Aside0.mk (HBj.out.trans hk8.below); clear hn8 hk8))
              | ((with_reducible refine gate_dst (N := 19) rfl ?_); refine box_event ?hg (N := 19) ?hd (cs := #[.int .i64 0, .int .i64 0, .int .i64 0, .string ⟨#[]⟩, .int .i64 0]) (t := 29) ?hr ?_; (case hd => rfl); (case hg => rfl); (case hr => first | (go_simp; done) | (go_simp; rfl)); intro gb hg w9 hbox hb; have HX9 := Aside0.mk hbox; have HBX9 := Aside0.mk hb; have HG9 := Aside0.mk hg; clear hbox hb hg)
              | (refine store_box rfl (.tmp 19) (.tmp 131) rfl gb _ (by rfl) rfl zeroMail (by rfl) HX9.out ?_; intro w10 hx10 hfar10 hb10; have HBX10 := Aside0.mk (HBX9.out.trans (hb10.mono (Nat.le_of_eq HG9.out.symm))); have HN10 := Aside0.mk (HN8.out.below HBX10.out); have HS10 := Aside0.mk (Kd.R_below HS8.out HBX10.out); have HB10 := Aside0.mk (HB8.out.trans (HBX10.out.mono HB8.out.size)); clear hx10 hfar10 hb10)
              | (go_at_call 19; ((with_reducible refine (join_calls HN10.out a b).mono ?_); rintro e w11 ⟨rfl, hn, hk⟩; have HN11 := Aside0.mk (show NetAt w.heap.size w11 g v8 (firsts (ordJ a b st) 0) from hn); have HS11 := Aside0.mk (R_kp HS10.out HN10.out hk (by decide)); have HB11 := Aside0.mk (HB10.out.trans hk.below); clear hn hk)))
            (try simp only [Act.put, List.setIfInBounds_toArray, List.set_cons_zero, List.set_cons_succ])
            go_wp2
            go_loopg [21] ns (fun kq v21 wl => ∃ (k : Nat) (vt : Value), v21 = .int .i64 (k : Int) ∧ Aside0 (kq + k = ns) ∧ Aside0 (NetAt w.heap.size wl g vt (firsts (ordJ a b st) k)) ∧ Aside0 (Kd.R (Kd.int .i64) 3 wl w.heap.size (fun _ => True) (.slice A10 ns c10) st.shut) ∧ Aside0 (Below w.heap.size w wl))
            case atStart => exact ⟨0, _, rfl, ⟨rfl⟩, HN11, HS11, HB11⟩
            case round =>
              obtain ⟨k, vk, rfl, HK, HNk, HSk, HBk⟩ := hrel
              by_cases hlt : k < ns
              · have g1 : decide ((k : Int) < (ns : Int)) = true := decide_eq_true (by omega)
                have g2 : decide (k < ns) = true := decide_eq_true hlt
                obtain ⟨htk, hid⟩ := ord_take2 HOK.out HA.out HBB.out k (by have h1 := HNS.out; omega)
                have hgood := ord_net2 HOK.out HA.out HBB.out k (by have h1 := HNS.out; omega)
                obtain ⟨m, hm⟩ : ∃ m, m = told (firsts (ordJ a b st) k) ((ordJ a b st).mail.getD k zeroMail) := ⟨_, rfl⟩
                rw [← hm] at htk hid
                obtain ⟨q, hq⟩ : ∃ q, q = st.shut.getD k 0 := ⟨_, rfl⟩
                rw [← hq] at hid
                have HTK := Aside0.mk htk
                have HGD := Aside0.mk hgood.1
                have HLN := Aside0.mk (show (firsts (ordJ a b st) k).mail.length < 1000000 by have h1 := hgood.2.1; have h2 := HI30.out; omega)
                have HID := Aside0.mk hid
                have HQ := Aside0.mk hq
                obtain ⟨b10, cc10, e10, _⟩ := R_plain HSk.out (by have h1 := HNS.out; omega)
                injection e10 with e101 e102 e103
                subst e101
                have p1 : (0 : Int) ≤ (k : Int) := Int.natCast_nonneg _
                have q1 : (k : Int) < (ns : Int) := by omega
                have HLT := Aside0.mk hlt
                have eqq : (q != q) = false := by simp
                clear htk hgood hid hq hm hlt e102 e103
                go_upto_region 34 with (first
                  | (go_at_call 13; ((with_reducible refine (take_calls HNk.out HGD.out HLN.out 0 (by decide)).mono ?_); rintro e w18 hh; rw [HTK.out] at hh; dsimp only at hh; obtain ⟨he, v18, hn8, hk8⟩ := hh; obtain rfl : e = .returned (.tuple #[.agg #[.int .i64 m.id, .int .i64 m.frm, .int .i64 m.to_, .string m.body, .int .i64 m.age], .bool true]) := he; have HN18 := Aside0.mk hn8; have HS18 := Aside0.mk (R_kp HSk.out HNk.out hk8 (by decide)); have HB18 := Aside0.mk (HBk.out.trans hk8.below); clear hn8 hk8))
                  | ((with_reducible refine gate_dst (N := 22) rfl ?_); refine box_event ?hg (N := 22) ?hd (cs := #[.int .i64 0, .int .i64 0, .int .i64 0, .string ⟨#[]⟩, .int .i64 0]) (t := 29) ?hr ?_; (case hd => rfl); (case hg => rfl); (case hr => first | (go_simp; done) | (go_simp; rfl)); intro gc hg w19 hbox hb; have HX19 := Aside0.mk hbox; have HBX19 := Aside0.mk hb; have HG19 := Aside0.mk hg; clear hbox hb hg)
                  | (refine store_box rfl (.tmp 22) (.tmp 146) rfl gc _ (by rfl) rfl m (by rfl) HX19.out ?_; intro w20 hx10 hfar10 hb10; have HX20 := Aside0.mk hx10; have HBX20 := Aside0.mk (HBX19.out.trans (hb10.mono (Nat.le_of_eq HG19.out.symm))); clear hx10 hfar10 hb10))
                (try simp only [Act.put, List.setIfInBounds_toArray, List.set_cons_zero, List.set_cons_succ])
                have HN20 := Aside0.mk (HN18.out.below HBX20.out)
                have HS20 := Aside0.mk (Kd.R_below HS18.out HBX20.out)
                have HB20 := Aside0.mk (HB18.out.trans (HBX20.out.mono HB18.out.size))
                have y0 := blk_cell HX20.out 0
                simp only [mail_cells, List.getElem?_toArray, List.getElem?_cons_zero, List.getElem?_cons_succ] at y0
                rw [HID.out] at y0
                have x9 := R_intat HS20.out k (by have h1 := HNS.out; have h2 := HLT.out; omega)
                rw [← HQ.out] at x9
                by_cases hk0 : k = 0
                · have g3 : decide (0 < (k : Int)) = false := decide_eq_false (by omega)
                  have g4 : decide (0 < k) = false := decide_eq_false (by omega)
                  clear hk0
                  go_quiet (fail)
                  all_goals
                    clear x9 y0
                    go_wp2
                    go_roundg (gk - 1)
                    case measure => have h1 := HK.out; have h2 := HLT.out; omega
                    case rel => exact ⟨k + 1, v18, by have h3 := HNS30.out; have h2 := HLT.out; rw [show wrap64 ((k : Int) + 1) = ((k + 1 : Nat) : Int) by rw [wrap64]; omega], ⟨by have h1 := HK.out; have h2 := HLT.out; omega⟩, ⟨HN20.out.drewN _⟩, ⟨Kd.R_drewN HS20.out _⟩, ⟨pw_below_drewN HB20.out _⟩⟩
                · have g3 : decide (0 < (k : Int)) = true := decide_eq_true (by omega)
                  have g4 : decide (0 < k) = true := decide_eq_true (by omega)
                  have x8 := R_intat HS20.out (k - 1) (by have h1 := HNS.out; have h2 := HLT.out; omega)
                  have hup := ord_up HOK.out (k - 1) (by have h1 := HNS.out; have h2 := HLT.out; omega)
                  rw [show k - 1 + 1 = k by omega, ← HQ.out] at hup
                  obtain ⟨q', hq'⟩ : ∃ q', q' = st.shut.getD (k - 1) 0 := ⟨_, rfl⟩
                  rw [← hq'] at x8 hup
                  have s1 : IntKind.i64.wrap ((k : Int) - 1) = (k : Int) - 1 := IntWalk.i64_in _ (by have h3 := HNS30.out; have h2 := HLT.out; omega)
                  have s2 : (0 : Int) ≤ (k : Int) - 1 := by omega
                  have s3 : (k : Int) - 1 < (ns : Int) := by have h2 := HLT.out; omega
                  have s4 : ((k : Int) - 1).toNat = k - 1 := by omega
                  have s5 : decide (q ≤ q') = false := decide_eq_false (by omega)
                  clear hk0 hup hq'
                  go_quiet (fail)
                  all_goals
                    clear x9 y0 x8 s1 s2 s3 s4 s5
                    go_wp2
                    go_roundg (gk - 1)
                    case measure => have h1 := HK.out; have h2 := HLT.out; omega
                    case rel => exact ⟨k + 1, v18, by have h3 := HNS30.out; have h2 := HLT.out; rw [show wrap64 ((k : Int) + 1) = ((k + 1 : Nat) : Int) by rw [wrap64]; omega], ⟨by have h1 := HK.out; have h2 := HLT.out; omega⟩, ⟨HN20.out.drewN _⟩, ⟨Kd.R_drewN HS20.out _⟩, ⟨pw_below_drewN HB20.out _⟩⟩
              · obtain rfl : k = ns := by have h1 := HK.out; omega
                have g1 : decide ((k : Int) < (k : Int)) = false := decide_eq_false (by omega)
                have g2 : decide (k < k) = false := decide_eq_false (by omega)
                have HLE := Aside0.mk ((ord_net2 HOK.out HA.out HBB.out k (by have h1 := HNS.out; omega)).2.2 HNS.out)
                clear hlt
                go_wp2_with (first
                  | (go_at_call 16; (with_reducible refine (waits_calls HNk.out).mono ?_); rintro e w' hh; rw [HLE.out] at hh; obtain ⟨rfl, rfl⟩ := hh))
                go_ret
                exact ⟨rfl, HBk.out⟩
theorem NetOrder_all (W : World) (A : Option Addr) (c : Nat) (l : List OpR) (hr : OpsIn W A l) (hc : l.length ≤ c) (x : Int) (wx : (Lit.int .i64 x).wf = true) (y : Int) (wy : (Lit.int .i64 y).wf = true) :
    Calls Try.prog 5 #[.slice A l.length c, .agg #[.int .i64 x, .int .i64 y]] W fun e w' => e = .returned (.bool true) ∧ Below W.heap.size W w' := NetOrder_walk W A c l hr hc x y
end Go.Proofs.Ytnggcegfieeonaa.Nx
