/- What is proved: that NetAges answers true at every input. No condition. -/
import Derived.Test.YtnggcegfieeonaaNages
namespace Go.Proofs.Ytnggcegfieeonaa.Nx
open Go.RowKit Go.Proofs.YtnggcegfieeonaaW.PrintWords Go.Proofs.YtnggcegfieeonaaW.PrintLast Go.Proofs.YtnggcegfieeonaaW.PrintMore
open Go.Proofs.Ytnggcegfieeonaa.PNetFull
set_option linter.unusedVariables false
set_option linter.unusedSimpArgs false
set_option maxHeartbeats 16000000 in
set_option maxRecDepth 100000 in
theorem NetAges_walk (A : Option Addr) (c : Nat) (l : List Int) (w : World) (hr : Kd.C (Kd.int .i64) w A l.length l) (hc : l.length ≤ c) :
    Calls Try.prog 6 #[.slice A l.length c] w fun e w' => e = .returned (.bool true) ∧ Below w.heap.size w w' := by
  have HR := Aside0.mk hr
  have HC := Aside0.mk hc
  obtain ⟨n, hn⟩ : ∃ n, n = min 20 l.length := ⟨_, rfl⟩
  have HNN := Aside0.mk hn
  clear hr hc hn
  go_enter Try.func6, Try.ntmps6
  go_upto_block 0 with (first
    | (go_at_call 9; (with_reducible refine (awake_calls w).mono ?_); rintro e w1 ⟨rfl, hb⟩; have HB1 := Aside0.mk hb; clear hb)
    | (go_at_call 10; (with_reducible refine (new_calls w.heap.size w1 HB1.out.size).mono ?_); rintro e w2 ⟨g, rfl, hn, hb, hg⟩; have HN2 := Aside0.mk (show NetAt w.heap.size w2 g (.slice none 0 0) (agesS l 0 0) from hn); have HB2 := Aside0.mk (HB1.out.trans (hb.mono HB1.out.size)); clear hn hb hg))
  go_wp2
  go_loopg [5, 6, 7] n (fun kq v5 v6 v7 wr => ∃ (i : Nat) (vs : Value), v7 = .int .i64 (i : Int) ∧ v5 = .int .i64 ((tT l i : Nat) : Int) ∧ Aside0 (kq + i = n) ∧ Aside0 (NetAt w.heap.size wr g vs (agesS l i 0)) ∧ Aside0 (Kd.R (Kd.int .i64) 3 wr w.heap.size (fun _ => True) v6 (bornI l i)) ∧ Aside0 (Below w.heap.size w wr))
  case atStart => exact ⟨0, _, rfl, rfl, ⟨rfl⟩, HN2, ⟨Kd.R_nil _ _ _ _ _⟩, HB2⟩
  case round =>
    obtain ⟨i, vs, rfl, rfl, HI, HN, HO, HB⟩ := hrel
    obtain ⟨ko, hko⟩ : ∃ k, k = gk := ⟨gk, rfl⟩
    have HKO := Aside0.mk hko
    clear hko
    have HRR := Aside0.mk (Kd.C_below HR.out HB.out)
    by_cases hlt : i < n
    · have f1 : decide ((i : Int) < (l.length : Int)) = true := decide_eq_true (by have h1 := HNN.out; omega)
      have f2 : decide (i < l.length) = true := decide_eq_true (by have h1 := HNN.out; omega)
      have f3 : decide ((i : Int) < 20) = true := decide_eq_true (by have h1 := HNN.out; omega)
      have f4 : decide (i < 20) = true := decide_eq_true (by have h1 := HNN.out; omega)
      have p1 : (0 : Int) ≤ (i : Int) := Int.natCast_nonneg _
      have q1 : (i : Int) < (l.length : Int) := by have h1 := HNN.out; omega
      obtain ⟨ad9, ea9, hx9⟩ := Kd.at_int HRR.out (i : Int) p1 q1
      obtain ⟨x, hx⟩ : ∃ x, x = rd l (i : Int) := ⟨_, rfl⟩
      rw [← hx, Int.toNat_natCast] at hx9
      have HX := Aside0.mk (show x = l.getD i 0 by rw [hx]; unfold rd; rw [Int.toNat_natCast])
      have HLT := Aside0.mk hlt
      subst ea9
      clear hx hlt
      go_upto_if 32 with (fail)
      go_cut [8] (fun v8 wc => v8 = .int .i64 ((tk x : Nat) : Int) ∧ Aside0 (wc = wr))
      case first =>
        rcases (tk_facts x).2 with ⟨c1, ek⟩ | ⟨c1, ek⟩
        all_goals
          rw [c1]
          clear c1
          go_wp2
          go_meet
          case rel => exact ⟨by rw [ek], ⟨rfl⟩⟩
      case rest =>
        obtain ⟨rfl, HWC⟩ := hcut
        obtain rfl := HWC.out
        have HTK := Aside0.mk (show tT l (i + 1) = tT l i + tk x by rw [tT, ← HX.out])
        have HTL := Aside0.mk (show tT l i + tk x ≤ 2000 by have h1 := tT_le l i; have h2 := (tk_facts x).1; have h3 := HLT.out; have h4 := HNN.out; omega)
        obtain ⟨K, hK⟩ : ∃ K, K = tk x := ⟨_, rfl⟩
        have HK := Aside0.mk hK
        rw [← hK] at HTK HTL ⊢
        clear hK
        go_wp2
        go_loopg [5, 9] K (fun kq v5 v9 wq => ∃ t : Nat, v9 = .int .i64 (t : Int) ∧ v5 = .int .i64 ((tT l i + t : Nat) : Int) ∧ Aside0 (kq + t = K) ∧ Aside0 (NetAt w.heap.size wq g vs (agesS l i t)) ∧ Aside0 (Kd.R (Kd.int .i64) 3 wq w.heap.size (fun _ => True) u6 (bornI l i)) ∧ Aside0 (Below w.heap.size w wq))
        case atStart => exact ⟨0, rfl, rfl, ⟨rfl⟩, HN, HO, HB⟩
        case round =>
          obtain ⟨t, rfl, rfl, HT, HNq, HOq, HBq⟩ := hrel
          by_cases htl : t < K
          · have g1 : decide ((t : Int) < (K : Int)) = true := decide_eq_true (by omega)
            have g2 : decide (t < K) = true := decide_eq_true htl
            have HTT := Aside0.mk htl
            have ew : wrap64 (((tT l i + t : Nat) : Int) + 1) = ((tT l i + (t + 1) : Nat) : Int) := by have h1 := HTL.out; rw [wrap64]; omega
            have HEW := Aside0.mk ew
            clear htl ew
            go_wp2_with (first
              | (go_at_call 20; (with_reducible refine (tick_net HNq.out).mono ?_); rintro e w5 ⟨rfl, hn5, hk5⟩; have HO5 := Aside0.mk (R_kp HOq.out HNq.out hk5 (by decide)); have HN5 := Aside0.mk (show NetAt w.heap.size w5 g vs (agesS l i (t + 1)) by have h1 := hn5; rw [show wrap64 ((agesS l i t).now + 1) = ((tT l i + (t + 1) : Nat) : Int) from HEW.out] at h1; exact h1); have HB5 := Aside0.mk (HBq.out.trans hk5.below); clear hn5 hk5))
            go_roundg (gk - 1)
            case measure => have h1 := HT.out; have h2 := HTT.out; omega
            case rel => exact ⟨t + 1, by have h1 := HTL.out; have h2 := HTT.out; rw [show wrap64 ((t : Int) + 1) = ((t + 1 : Nat) : Int) by rw [wrap64]; omega], by have h := HEW.out; rw [show ((tT l i + t : Nat) : Int) = (tT l i : Int) + (t : Int) by omega] at h; rw [h], ⟨by have h1 := HT.out; have h2 := HTT.out; omega⟩, HN5, HO5, HB5⟩
          · have g1 : decide ((t : Int) < (K : Int)) = false := decide_eq_false (by omega)
            obtain rfl : t = K := by have h1 := HT.out; omega
            have g2 : decide (t < t) = false := decide_eq_false (by omega)
            have HSF := Aside0.mk (show sendF (agesS l i t) 1 2 ⟨#[120]⟩ = (((i + 1 : Nat) : Int), true, agesS l (i + 1) 0) by
              have h1 := ages_send l i (by have h2 := HLT.out; have h3 := HNN.out; omega)
              rw [← HX.out, ← HK.out] at h1
              exact h1)
            have HBS := Aside0.mk (show bornI l (i + 1) = bornI l i ++ [(tT l i : Int) + (t : Int)] by rw [born_step, HTK.out]; rfl)
            have HI20 := Aside0.mk (show i < 20 by have h2 := HLT.out; have h3 := HNN.out; omega)
            have ew : wrap64 ((i : Int) + 1) = ((i + 1 : Nat) : Int) := by have h1 := HI20.out; rw [wrap64]; omega
            have HEW2 := Aside0.mk ew
            clear ew
            go_wp2_with (first
              | (go_at_call 11; (with_reducible refine (send_calls HNq.out 1 2 ⟨#[120]⟩).mono ?_); rintro e w6 hh; rw [HSF.out] at hh; dsimp only at hh; obtain ⟨rfl, v6', hn6, hk6⟩ := hh; have HN6 := Aside0.mk hn6; have HO6 := Aside0.mk (R_kp HOq.out HNq.out hk6 (by decide)); have HB6 := Aside0.mk (HBq.out.trans hk6.below); clear hn6 hk6)
              | ((with_reducible refine gate_builtin (b := .append) (xs := #[.tmp 46, .tmp 48]) rfl ?_); at_builtin; refine Kd.R_append (Kd.int .i64) (w0 := w) w.heap.size rfl (.tmp 46) (.tmp 48) 35 3 (.int .i64 0) 8 rfl Try.underlying35 info3 rfl (by decide) (by omega) _ (bornI l i) ((tT l i : Int) + (t : Int)) [.int .i64 ((tT l i : Int) + (t : Int))] (fun _ => True) (fun _ => False) rfl rfl ?aP (fun _ hk => hk.elim) ?aF ?aO ?aB ?aS ?aL ?_; (case aP => exact rfl); (case aB => exact HB6.out); (case aF => exact (fun _ _ => trivial)); (case aO => exact HO6.out); (case aS => exact HB6.out.size); (case aL => have h1 := HI20.out; rw [born_len]; omega); intro v391 w18 ho hb hg hat; have HO7 := Aside0.mk ho; have HB7 := Aside0.mk hb; have HG7 := Aside0.mk hg; have HU7 := Aside0.mk (Kd.R_typed HO6.out); clear ho hb hg hat))
            have HN7 := Aside0.mk (HN6.out.other HG7.out HU7.out (by decide) (by decide))
            go_roundg (ko - 1)
            case measure => have h1 := HI.out; have h2 := HLT.out; have h3 := HKO.out; omega
            case rel => exact ⟨i + 1, v6', by have h := HEW2.out; rw [h], by rw [HTK.out]; rfl, ⟨by have h1 := HI.out; have h2 := HLT.out; have h3 := HKO.out; omega⟩, HN7, ⟨by rw [HBS.out]; exact HO7.out⟩, HB7⟩
    · obtain rfl : i = n := by have h1 := HI.out; omega
      have HN20 := Aside0.mk (show i ≤ 20 by have h1 := HNN.out; omega)
      have HF : (decide ((i : Int) < (l.length : Int)) = false ∧ decide (i < l.length) = false) ∨ (decide ((i : Int) < (l.length : Int)) = true ∧ decide (i < l.length) = true ∧ decide ((i : Int) < 20) = false ∧ decide (i < 20) = false) := by
        have h1 := HNN.out
        by_cases h : i < l.length
        · exact .inr ⟨decide_eq_true (by omega), decide_eq_true h, decide_eq_false (by omega), decide_eq_false (by omega)⟩
        · exact .inl ⟨decide_eq_false (by omega), decide_eq_false h⟩
      obtain ⟨L, hL⟩ : ∃ L, L = readyM (agesS l i 0) (readyI (agesS l i 0) (agesS l i 0).mail.length) := ⟨_, rfl⟩
      have HL := Aside0.mk hL
      have htold := told_ages l i HN20.out
      rw [← hL] at htold
      have HLL := Aside0.mk htold.1
      have HLA := Aside0.mk htold.2
      have HBL := Aside0.mk (born_len l i)
      have HML := Aside0.mk (show (agesS l i 0).mail.length = i from agesM_len l i)
      have HLN := Aside0.mk (show (agesS l i 0).mail.length < 1000000 by have h1 := HN20.out; have h2 := HML.out; omega)
      have HTT := Aside0.mk (show ∀ k, tT l k ≤ 50 * k from tT_le l)
      clear hL htold hlt
      rcases HF with ⟨f1, f2⟩ | ⟨f1, f2, f3, f4⟩
      all_goals
        obtain ⟨A6, c6, e6⟩ := Kd.R_slice HO.out
        rw [HBL.out] at e6
        subst e6
        go_wp2_with (first
          | (go_at_call 21; (with_reducible refine (Ready_calls HN.out (ages_good l i 0) HLN.out).mono ?_); rintro e w8 ⟨v8, rfl, ho, hb⟩; rw [← HL.out] at ho; have HO8 := Aside0.mk ho; have HN8 := Aside0.mk (HN.out.below hb); have HI8 := Aside0.mk (Kd.R_below HO.out hb); have HB8 := Aside0.mk (HB.out.trans (hb.mono HB.out.size)); obtain ⟨A8, c8, e8⟩ := Kd.R_slice ho; rw [HLL.out] at e8; subst e8; clear ho hb))
        go_loopg [11] i (fun kq v11 wl => ∃ k : Nat, v11 = .int .i64 (k : Int) ∧ Aside0 (kq + k = i) ∧ Aside0 (Drawn0 w8 wl))
        case atStart => exact ⟨0, rfl, ⟨rfl⟩, ⟨Drawn0.refl _⟩⟩
        case round =>
          obtain ⟨k, rfl, HK, HDR⟩ := hrel
          obtain ⟨nd, rfl⟩ := HDR.out.out
          by_cases hlt : k < i
          · have g1 : decide ((k : Int) < (i : Int)) = true := decide_eq_true (by omega)
            have g2 : decide (k < i) = true := decide_eq_true hlt
            obtain ⟨b8, cc8, e8, _⟩ := R_plain HO8.out (by rw [HLL.out]; omega)
            rw [HLL.out] at e8
            injection e8 with e81 _ e83
            subst e81
            subst e83
            obtain ⟨b6, cc6, e6, _⟩ := R_plain HI8.out (by rw [HBL.out]; omega)
            rw [HBL.out] at e6
            injection e6 with e61 _ e63
            subst e61
            subst e63
            have x4 := R_mailat HO8.out k 4 (by rw [HLL.out]; exact hlt) (.int .i64 (((tT l i : Nat) : Int) - ((tT l (k + 1) : Nat) : Int))) (by rw [HLA.out k hlt]; rfl)
            have x0 := R_mailat HO8.out k 0 (by rw [HLL.out]; exact hlt) (.int .i64 ((k : Int) + 1)) (by rw [HLA.out k hlt]; rfl)
            rw [Nat.add_zero] at x0
            have x6 := R_intat HI8.out k (by rw [HBL.out]; exact hlt)
            rw [born_at l hlt] at x6
            have p1 : (0 : Int) ≤ (k : Int) := Int.natCast_nonneg _
            have q1 : (k : Int) < (i : Int) := by omega
            have HLT := Aside0.mk hlt
            have s1 : IntKind.i64.wrap (((tT l i : Nat) : Int) - ((tT l (k + 1) : Nat) : Int)) = ((tT l i : Nat) : Int) - ((tT l (k + 1) : Nat) : Int) := IntWalk.i64_in _ (by have h1 := HTT.out i; have h2 := HTT.out (k + 1); have h3 := HN20.out; omega)
            have s2 : IntKind.i64.wrap ((k : Int) + 1) = (k : Int) + 1 := IntWalk.i64_in _ (by have h3 := HN20.out; omega)
            clear hlt
            go_wp2
            go_quiet (fail)
            all_goals
              clear s1 s2
              go_wp2
              go_roundg (gk - 1)
              case measure => have h1 := HK.out; have h2 := HLT.out; omega
              case rel => exact ⟨k + 1, by have h3 := HN20.out; have h2 := HLT.out; rw [show wrap64 ((k : Int) + 1) = ((k + 1 : Nat) : Int) by rw [wrap64]; omega], ⟨by have h1 := HK.out; have h2 := HLT.out; omega⟩, ⟨⟨_, rfl⟩⟩⟩
          · obtain rfl : k = i := by have h1 := HK.out; omega
            have g1 : decide ((k : Int) < (k : Int)) = false := decide_eq_false (by omega)
            have g2 : decide (k < k) = false := decide_eq_false (by omega)
            have HB9 := Aside0.mk (pw_below_drewN HB8.out nd)
            have HN9 := Aside0.mk (HN8.out.drewN nd)
            clear hlt
            by_cases h0 : k = 0
            · have g3 : ((k : Int) == 0) = true := by rw [h0]; rfl
              have HM0 := Aside0.mk (show (agesS l k 0).mail.length = 0 by rw [HML.out, h0])
              clear h0
              go_wp2_with (first
                | (go_at_call 22; (with_reducible refine (oldest_none HN9.out HM0.out).mono ?_); rintro e w9 ⟨rfl, rfl⟩))
              go_ret
              exact ⟨rfl, HB9.out⟩
            · have g3 : ((k : Int) == 0) = false := by rw [beq_eq_false_iff_ne]; omega
              have HM0 := Aside0.mk (show 0 < (agesS l k 0).mail.length by rw [HML.out]; omega)
              have HOE := Aside0.mk (told_oldest l k HN20.out (by omega))
              obtain ⟨b6, cc6, e6, _⟩ := R_plain HI8.out (by rw [HBL.out]; omega)
              rw [HBL.out] at e6
              injection e6 with e61 _ e63
              subst e61
              subst e63
              have x6 := R_intat HI8.out 0 (by rw [HBL.out]; omega)
              rw [born_at l (by omega : 0 < k), Nat.zero_add] at x6
              have q1 : (0 : Int) < (k : Int) := by omega
              have s1 : IntKind.i64.wrap (((tT l k : Nat) : Int) - ((tT l 1 : Nat) : Int)) = ((tT l k : Nat) : Int) - ((tT l 1 : Nat) : Int) := IntWalk.i64_in _ (by have h1 := HTT.out k; have h2 := HTT.out 1; have h3 := HN20.out; omega)
              clear h0
              go_wp2
              go_region_with (first
                | (go_at_call 22; ((with_reducible refine (oldest_calls (HN8.out.drewN (nd + 1)) HM0.out HLN.out).mono ?_); rintro e w9 ⟨he, hb⟩; rw [HOE.out] at he; subst he; have HB10 := Aside0.mk ((pw_below_drewN HB8.out (nd + 1)).trans (hb.mono HB8.out.size)); have x7 := pw_cell_below hb (show (w8.drewN (nd + 1)).cell? _ = _ from x6); clear hb)))
              all_goals
                go_wp2
                go_ret
                exact ⟨rfl, HB10.out⟩
theorem NetAges_all (W : World) (A : Option Addr) (c : Nat) (l : List Int) (hr : Kd.C (Kd.int .i64) W A l.length l) (hc : l.length ≤ c) (hw : ∀ x ∈ l, (Lit.int .i64 x).wf = true) :
    Calls Try.prog 6 #[.slice A l.length c] W fun e w' => e = .returned (.bool true) ∧ Below W.heap.size W w' := NetAges_walk A c l W hr hc
end Go.Proofs.Ytnggcegfieeonaa.Nx
