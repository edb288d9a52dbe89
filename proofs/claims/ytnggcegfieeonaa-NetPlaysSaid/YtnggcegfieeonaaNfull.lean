/- What is proved: that NetFull answers true at every input. No condition. -/
import Derived.Test.YtnggcegfieeonaaNwj
namespace Go.Proofs.Ytnggcegfieeonaa.Nx
open Go.RowKit Go.Proofs.YtnggcegfieeonaaW.PrintWords Go.Proofs.YtnggcegfieeonaaW.PrintLast Go.Proofs.YtnggcegfieeonaaW.PrintMore
open Go.Proofs.Ytnggcegfieeonaa.PNetFull
set_option linter.unusedVariables false
set_option linter.unusedSimpArgs false
theorem sendF_yes (S : Net) (a b : Int) (s : ByteArray) (h1 : two a b = true) (h2 : s.size ≤ 80000) (h3 : S.mail.length < 2000) : sendF S a b s = (wrap64 (S.last + 1), true, { S with mail := S.mail ++ [⟨wrap64 (S.last + 1), a, b, s, S.now⟩], last := wrap64 (S.last + 1) }) := by rw [sendF, if_pos ⟨h1, h2, h3⟩]
theorem sendF_no (S : Net) (a b : Int) (s : ByteArray) (h : ¬ (two a b = true ∧ s.size ≤ 80000 ∧ S.mail.length < 2000)) : sendF S a b s = (0, false, S) := by rw [sendF, if_neg h]
theorem two_ok {a b : Int} (h : two a b = true) : 0 ≤ a ∧ a < 64 ∧ 0 ≤ b ∧ b < 64 := by
  obtain ⟨m, n, rfl, rfl, h1, h2, _⟩ := two_inv h
  omega
theorem good_put {S : Net} (h : S.Good) (m : Mail) (hm : m.ok) (l : Int) : ({ S with mail := S.mail ++ [m], last := l } : Net).Good := fun x hx => by
  rcases List.mem_append.1 hx with hx | hx
  · exact h x hx
  · rw [List.mem_singleton.1 hx]; exact hm
theorem good_erase {S : Net} (h : S.Good) (i : Nat) : ({ S with mail := S.mail.eraseIdx i } : Net).Good := fun x hx => h x (List.mem_of_mem_eraseIdx hx)
theorem good_send {S : Net} (h : S.Good) (a b : Int) (s : ByteArray) : (sendF S a b s).2.2.Good := by
  unfold sendF
  split
  · rename_i hc
    exact good_put h _ (two_ok hc.1) _
  · exact h
theorem mem_getD {l : List Mail} {i : Nat} (h : i < l.length) (d : Mail) : l.getD i d ∈ l := by
  rw [List.getD_eq_getElem?_getD, List.getElem?_eq_getElem h]
  exact List.getElem_mem h
/-- The network behind the first i calls. -/
def fullS : Nat → Net
  | 0 => emptyNet
  | i + 1 => (sendF (fullS i) ((i % 4 : Nat) : Int) 4 ⟨#[]⟩).2.2
theorem two4 (i : Nat) : two ((i % 4 : Nat) : Int) 4 = true := by
  have h : i % 4 < 4 := Nat.mod_lt _ (by decide)
  generalize i % 4 = j at h
  match j, h with
  | 0, _ => rfl
  | 1, _ => rfl
  | 2, _ => rfl
  | 3, _ => rfl
theorem send_grow (S : Net) (a b : Int) (s : ByteArray) (n K : Nat) (hK : K = 2000) (h : S.mail.length = min n K) (h1 : two a b = true) (h2 : s.size ≤ 80000) : (sendF S a b s).2.2.mail.length = min (n + 1) K ∧ (sendF S a b s).2.1 = decide (n < K) := by
  by_cases hc : S.mail.length < 2000
  · rw [sendF_yes S a b s h1 h2 hc]
    have e : (S.mail ++ [(⟨wrap64 (S.last + 1), a, b, s, S.now⟩ : Mail)]).length = S.mail.length + 1 := by rw [List.length_append]; rfl
    refine ⟨e.trans (by omega), (decide_eq_true (by omega)).symm⟩
  · rw [sendF_no S a b s (fun x => hc x.2.2)]
    exact ⟨by show S.mail.length = _; omega, (decide_eq_false (by omega)).symm⟩
theorem send_P (S : Net) (a b : Int) (s : ByteArray) : (sendF S a b s).2.2.P = S.P := by
  unfold sendF
  split <;> rfl
theorem full_facts (K : Nat) (hK : K = 2000) (i : Nat) : (fullS i).mail.length = min i K ∧ (fullS i).Good ∧ (fullS i).P = fun _ => false := by
  induction i with
  | zero => exact ⟨by rw [Nat.zero_min]; rfl, fun x hx => (by cases hx), rfl⟩
  | succ i ih =>
    obtain ⟨h1, h2, h3⟩ := ih
    exact ⟨(send_grow (fullS i) _ _ _ i K hK h1 (two4 i) (Nat.zero_le _)).1, good_send h2 _ _ _, (send_P (fullS i) _ _ _).trans h3⟩
theorem full_send (K : Nat) (hK : K = 2000) (i : Nat) : (sendF (fullS i) ((i % 4 : Nat) : Int) 4 ⟨#[]⟩).2.1 = decide (i < K) := (send_grow (fullS i) _ _ _ i K hK (full_facts K hK i).1 (two4 i) (Nat.zero_le _)).2
theorem readyI_all (S : Net) (h : S.P = fun _ => false) (n : Nat) : (readyI S n).length = n := by
  induction n with
  | zero => rfl
  | succ n ih => rw [readyI, h, if_neg (by simp), List.length_append, ih]; rfl
theorem take_facts (S : Net) (h : S.P = fun _ => false) (hg : S.Good) (hl : 0 < S.mail.length) (hw : (Lit.int .i64 0).wf = true) : (takeF S 0).2.2.mail.length = S.mail.length - 1 ∧ (takeF S 0).2.2.Good ∧ (takeF S 0).2.2.P = fun _ => false := by
  have hr := readyI_all S h S.mail.length
  unfold takeF
  rw [if_neg (by omega)]
  obtain ⟨hp, hpl⟩ := pick_told 0 hw (readyI S S.mail.length).length (by omega)
  have hin : (readyI S S.mail.length).getD (pickN 0 (readyI S S.mail.length).length) 0 ∈ readyI S S.mail.length := by
    rw [List.getD_eq_getElem?_getD, List.getElem?_eq_getElem hpl]
    exact List.getElem_mem hpl
  have hb := readyI_in S _ _ hin
  refine ⟨?_, good_erase hg _, h⟩
  show (S.mail.eraseIdx _).length = _
  rw [List.length_eraseIdx, if_pos (by omega)]
theorem double_facts (S : Net) (h : S.P = fun _ => false) (hg : S.Good) (hl : 0 < S.mail.length) (hw : (Lit.int .i64 0).wf = true) : (doubleF S 0).1 = decide (S.mail.length < 2000) ∧ (doubleF S 0).2.Good ∧ ((doubleF S 0).2.P = fun _ => false) ∧ S.mail.length ≤ (doubleF S 0).2.mail.length ∧ (S.mail.length ≤ 2000 → (doubleF S 0).2.mail.length ≤ 2000) := by
  unfold doubleF
  by_cases hc : S.mail.length = 0 ∨ 2000 ≤ S.mail.length
  · rw [if_pos hc, decide_eq_false (by omega)]
    exact ⟨rfl, hg, h, Nat.le_refl _, fun x => x⟩
  · rw [if_neg hc, decide_eq_true (by omega)]
    have hz : (putF S (S.mail.getD (pickN 0 S.mail.length) zeroMail)).mail.length = S.mail.length + 1 := by
      unfold putF
      rw [List.length_append]
      rfl
    refine ⟨rfl, good_put hg _ ?_ _, h, by rw [hz]; omega, fun _ => by rw [hz]; omega⟩
    have := hg _ (mem_getD (pick_told 0 hw S.mail.length hl).2 zeroMail)
    exact this
theorem abs_mod (x : Int) (hx : (Lit.int .i64 x).wf = true) (z : Nat) (hz : 0 < z) (hz2 : z < 1000) : ∃ k : Nat, k < z ∧ ((decide (Int.tmod x (z : Int) < 0) = true ∧ wrap64 (-(Int.tmod x (z : Int))) = (k : Int)) ∨ (decide (Int.tmod x (z : Int) < 0) = false ∧ Int.tmod x (z : Int) = (k : Int))) := by
  have h1 : Int.tmod x (z : Int) < (z : Int) := Int.tmod_lt_of_pos _ (by omega)
  have h2 : -(z : Int) < Int.tmod x (z : Int) := by
    have := Int.lt_tmod_of_pos x (show (0 : Int) < (z : Int) by omega)
    omega
  generalize Int.tmod x (z : Int) = t at h1 h2
  by_cases h : t < 0
  · exact ⟨(-t).toNat, by omega, .inl ⟨decide_eq_true h, by unfold wrap64; omega⟩⟩
  · exact ⟨t.toNat, by omega, .inr ⟨decide_eq_false h, by omega⟩⟩
theorem info5 : (Try.prog.info? 5).map (fun i => (i.zero, i.size, i.bytes)) = some (some (.int .u8 0), 1, 1) := by kernel_rfl
theorem nums_size (n : Nat) : (strOfNums (List.replicate n 0)).size = n := by
  simp [strOfNums, ByteArray.size]
set_option maxHeartbeats 16000000 in
set_option maxRecDepth 100000 in
theorem NetFull_walk (more len : Int) (k m n s0 : Nat) (w : World) (K : Nat) (hK : K = 2000) (hn : n = 1995 + k) (hk : k < 20) (hm : m < 21) (hs0 : s0 = min n K)
    (hA : (decide (Int.tmod more 20 < 0) = true ∧ wrap64 (-(Int.tmod more 20)) = (k : Int)) ∨ (decide (Int.tmod more 20 < 0) = false ∧ Int.tmod more 20 = (k : Int)))
    (hM : (decide (Int.tmod len 21 < 0) = true ∧ wrap64 (-(Int.tmod len 21)) = (m : Int)) ∨ (decide (Int.tmod len 21 < 0) = false ∧ Int.tmod len 21 = (m : Int)))
    (hW : (decide ((2000 : Int) < (n : Int)) = true ∧ s0 = 2000) ∨ (decide ((2000 : Int) < (n : Int)) = false ∧ s0 = n)) (dd : Bool) (hD : (doubleF (fullS n) 0).1 = dd) (hdd : (dd == decide ((s0 : Int) < 2000)) = true) (b : Bool)
    (hb : (sendF (takeF (takeF (doubleF (fullS n) 0).2 0).2.2 0).2.2 1 2 (strOfNums (List.replicate (79990 + m) 0))).2.1 = b) (hb2 : (b == decide ((m : Int) ≤ 10)) = true)
    (hg1 : (doubleF (fullS n) 0).2.Good) (hl1 : (doubleF (fullS n) 0).2.mail.length < 1000000) (hg2 : (takeF (doubleF (fullS n) 0).2 0).2.2.Good) (hl2 : (takeF (doubleF (fullS n) 0).2 0).2.2.mail.length < 1000000) (hw0 : (Lit.int .i64 0).wf = true) :
    Calls Try.prog 3 #[.int .i64 more, .int .i64 len] w fun e w' => e = .returned (.bool true) ∧ Below w.heap.size w w' := by
  have en : wrap64 (1995 + (k : Int)) = (n : Int) := by rw [wrap64]; omega
  have em : wrap64 (79990 + (m : Int)) = ((79990 + m : Nat) : Int) := by rw [wrap64]; omega
  obtain ⟨z, hz⟩ : ∃ z : Nat, z = 79990 + m := ⟨_, rfl⟩
  rw [← hz] at em hb
  have HZ := Aside0.mk hz
  have HN0 := Aside0.mk hn
  have HK := Aside0.mk hK
  have HS0 := Aside0.mk hs0
  have HB := Aside0.mk hb
  have HG1 := Aside0.mk hg1
  have HL1 := Aside0.mk hl1
  have HG2 := Aside0.mk hg2
  have HL2 := Aside0.mk hl2
  have HKK := Aside0.mk hk
  have HW0 := Aside0.mk hw0
  have z0 : (0 : Int) ≤ (z : Int) := Int.natCast_nonneg _
  have z1 : z ≤ 281474976710656 := by omega
  clear hz hn hK hs0 hb hg1 hl1 hg2 hl2 hk hm hw0
  have HA := Aside0.mk hA
  have HWW := Aside0.mk hW
  have HD := Aside0.mk hD
  have HMM := Aside0.mk hM
  have HEN := Aside0.mk en
  have HEM := Aside0.mk em
  clear hA hM en em hW hD
  go_enter Try.func3, Try.ntmps3
  go_upto_if 24 with (first
      | (go_at_call 9; (with_reducible refine (awake_calls w).mono ?_); rintro e w1 ⟨rfl, hb⟩; have HB1 := Aside0.mk hb; clear hb)
      | (go_at_call 10; (with_reducible refine (new_calls w.heap.size w1 HB1.out.size).mono ?_); rintro e w2 ⟨g, rfl, hn, hb, hg⟩; have HN2 := Aside0.mk (show NetAt w.heap.size w2 g (.slice none 0 0) (fullS 0) from hn); have HB2 := Aside0.mk (HB1.out.trans (hb.mono HB1.out.size)); clear hn hb hg))
  go_cut [7] (fun v7 wc => v7 = .int .i64 (k : Int) ∧ Aside0 (wc = w2))
  case first =>
    rcases HA.out with ⟨c1, ek⟩ | ⟨c1, ek⟩
    all_goals
      rw [c1]
      clear c1
      go_wp2
      go_meet
      case rel => exact ⟨by rw [ek], ⟨rfl⟩⟩
  case rest =>
    obtain ⟨rfl, HW2⟩ := hcut
    obtain rfl := HW2.out
    have en := HEN.out
    go_wp2
    go_loopg [8, 9] n (fun kq v8 v9 wr => ∃ (i : Nat) (vs : Value), v9 = .int .i64 (i : Int) ∧ v8 = .int .i64 ((min i K : Nat) : Int) ∧ Aside0 (kq + i = n) ∧ Aside0 (NetAt w.heap.size wr g vs (fullS i)) ∧ Aside0 (Below w.heap.size w wr))
    case atStart => exact ⟨0, _, rfl, by rw [Nat.zero_min]; rfl, ⟨rfl⟩, HN2, HB2⟩
    case round =>
      obtain ⟨i, vs, rfl, rfl, HI, HN, HBL⟩ := hrel
      by_cases hlt : i < n
      · have f1 : decide ((i : Int) < (n : Int)) = true := decide_eq_true (by omega)
        have f2 : decide (i < n) = true := decide_eq_true hlt
        obtain ⟨r, hr⟩ : ∃ r : Int, r = ((i % 4 : Nat) : Int) := ⟨_, rfl⟩
        have ei : Int.tmod (i : Int) 4 = r := by rw [hr, Int.tmod_eq_emod_of_nonneg (by omega)]; omega
        have HR := Aside0.mk hr
        clear hr
        have HLT := Aside0.mk hlt
        have hin : i < 3000 := by have := HN0.out; have := HKK.out; omega
        have ew : wrap64 ((i : Int) + 1) = ((i + 1 : Nat) : Int) := by rw [wrap64]; omega
        by_cases hc : i < K
        · have es := Aside0.mk (show (sendF (fullS i) r 4 ⟨#[]⟩).2.1 = true by rw [HR.out, full_send K HK.out, decide_eq_true hc])
          have em1 : min i K = i := Nat.min_eq_left (Nat.le_of_lt hc)
          have em2 : min (i + 1) K = i + 1 := Nat.min_eq_left hc
          rw [em1]
          have HC := Aside0.mk hc
          have HE := Aside0.mk em2
          clear hlt hc em1 em2
          go_wp2_with (first
            | (go_at_call 11; (with_reducible refine (send_calls HN.out r 4 ⟨#[]⟩).mono ?_); rintro e w3 hh; rw [es.out] at hh; obtain ⟨rfl, v3, hn3, hk3⟩ := hh; rw [HR.out] at hn3; have HN3 := Aside0.mk (show NetAt w.heap.size w3 g v3 (fullS (i + 1)) from hn3); have HB3 := Aside0.mk (HBL.out.trans hk3.below); clear hn3 hk3))
          go_roundg (gk - 1)
          case measure => have := HI.out; have := HLT.out; omega
          case rel => exact ⟨i + 1, v3, by go_num, by rw [HE.out]; go_num, ⟨by have := HI.out; have := HLT.out; omega⟩, HN3, HB3⟩
        · have es := Aside0.mk (show (sendF (fullS i) r 4 ⟨#[]⟩).2.1 = false by rw [HR.out, full_send K HK.out, decide_eq_false hc])
          have em1 := Aside0.mk (show min (i + 1) K = min i K by omega)
          clear hlt hc
          obtain ⟨mi, hmi⟩ : ∃ mi, mi = min i K := ⟨_, rfl⟩
          rw [← hmi] at em1 ⊢
          go_wp2_with (first
            | (go_at_call 11; (with_reducible refine (send_calls HN.out r 4 ⟨#[]⟩).mono ?_); rintro e w3 hh; rw [es.out] at hh; obtain ⟨rfl, v3, hn3, hk3⟩ := hh; rw [HR.out] at hn3; have HN3 := Aside0.mk (show NetAt w.heap.size w3 g v3 (fullS (i + 1)) from hn3); have HB3 := Aside0.mk (HBL.out.trans hk3.below); clear hn3 hk3))
          go_roundg (gk - 1)
          case measure => have := HI.out; have := HLT.out; omega
          case rel => exact ⟨i + 1, v3, by go_num, by rw [em1.out, ← hmi], ⟨by have := HI.out; have := HLT.out; omega⟩, HN3, HB3⟩
      · have f1 : decide ((i : Int) < (n : Int)) = false := decide_eq_false (by omega)
        have f2 : decide (i < i) = false := decide_eq_false (by omega)
        obtain rfl : i = n := by have := HI.out; omega
        have HNN := Aside0.mk HN.out
        have eK := HS0.out
        rw [← eK]
        clear eK
        go_upto_if 46 with (fail)
        rw [en]
        clear en f1 f2
        go_cut [12] (fun v12 wc => v12 = .int .i64 (s0 : Int) ∧ Aside0 (wc = wr))
        case first =>
          rcases HWW.out with ⟨c3, c5⟩ | ⟨c3, c5⟩
          all_goals
            rw [c3]
            clear c3
            go_wp2
            go_meet
            case rel => exact ⟨by first | (rw [c5]; done) | (rw [c5]; rfl), ⟨rfl⟩⟩
        case rest =>
          obtain ⟨rfl, HWR⟩ := hcut
          obtain rfl := HWR.out
          go_upto_if 56 with (first
            | (go_at_call 12; (with_reducible refine (double_calls HN.out 0 HW0.out).mono ?_); rintro e w3 hh; rw [HD.out] at hh; obtain ⟨rfl, v3, hn3, hk3⟩ := hh; have HN3 := Aside0.mk hn3; have HB3 := Aside0.mk (HBL.out.trans hk3.below); clear hn3 hk3)
            | (go_at_call 13; (with_reducible refine (take_calls HN3.out HG1.out HL1.out 0 HW0.out).mono ?_); rintro e w4 ⟨rfl, v4, hn4, hk4⟩; have HN4 := Aside0.mk hn4; have HB4 := Aside0.mk (HB3.out.trans hk4.below); clear hn4 hk4)
            | (go_at_call 13; (with_reducible refine (take_calls HN4.out HG2.out HL2.out 0 HW0.out).mono ?_); rintro e w5 ⟨rfl, v5, hn5, hk5⟩; have HN5 := Aside0.mk hn5; have HB5 := Aside0.mk (HB4.out.trans hk5.below); clear hn5 hk5))
          go_cut [14] (fun v14 wc => v14 = .int .i64 (m : Int) ∧ Aside0 (wc = w5))
          case first =>
            rcases HMM.out with ⟨c1, ek⟩ | ⟨c1, ek⟩
            all_goals
              rw [c1]
              clear c1
              go_wp2
              go_meet
              case rel => exact ⟨by rw [ek], ⟨rfl⟩⟩
          case rest =>
            obtain ⟨rfl, HW5⟩ := hcut
            obtain rfl := HW5.out
            have em := HEM.out
            go_wp2_with (first
              | ((with_reducible refine gate_dst (N := 63) rfl ?_); refine Kd.R_make (Kd.int .u8) _ 5 rfl (N := 63) rfl 32 _ _ rfl (wrap64 (79990 + (m : Int))) rfl rfl Try.underlying32 (.int .u8 0) 1 info5 rfl (by decide) (by omega) 0 (ok := fun _ => True) (okp := fun _ => True) rfl (fun _ hk => hk) trivial (by rw [em]; exact z0) (by rw [em, Int.toNat_natCast]; omega) (Below.refl _ _) (Nat.le_refl _) ?_; intro v335 w6 ho hb hg_ hnew_; clear hg_ hnew_; rw [em, Int.toNat_natCast] at ho; have HO6 := Aside0.mk ho; have HB6 := Aside0.mk (HB5.out.trans (hb.mono HB5.out.size)); have HN6 := Aside0.mk (HN5.out.below hb); have hcv := own_string (P := Try.prog) Try.underlying32 Try.underlying5 Try.underlying9 (Kd.own_of_R ho); clear ho hb)
              | (go_at_call 11; (with_reducible refine (send_calls HN6.out 1 2 _).mono ?_); rintro e w7 hh; rw [HB.out] at hh; obtain ⟨rfl, v7, hn7, hk7⟩ := hh; have HB7 := Aside0.mk (HB6.out.trans hk7.below); clear hn7 hk7))

            go_ret
            exact ⟨rfl, HB7.out⟩
theorem send_size (S : Net) (s : ByteArray) (m : Nat) (hz : s.size = 79990 + m) (hl : S.mail.length < 2000) : (sendF S 1 2 s).2.1 = decide (m ≤ 10) := by
  by_cases h : m ≤ 10
  · rw [sendF_yes S 1 2 s (by decide) (by omega) hl, decide_eq_true h]
  · rw [sendF_no S 1 2 s (fun x => h (by have := x.2.1; omega)), decide_eq_false h]
theorem NetFull_all (a0 : Int) (h0 : (Lit.int .i64 a0).wf = true) (a1 : Int) (h1 : (Lit.int .i64 a1).wf = true) (w : World) :
    Calls Try.prog 3 #[.int .i64 a0, .int .i64 a1] w fun e w' => e = .returned (.bool true) ∧ Below w.heap.size w w' := by
  obtain ⟨K, hK⟩ : ∃ K, K = 2000 := ⟨_, rfl⟩
  obtain ⟨k, hk, hA⟩ := abs_mod a0 h0 20 (by decide) (by decide)
  obtain ⟨m, hm, hM⟩ := abs_mod a1 h1 21 (by decide) (by decide)
  obtain ⟨n, hn⟩ : ∃ n, n = 1995 + k := ⟨_, rfl⟩
  obtain ⟨s0, hs0⟩ : ∃ s0, s0 = min n K := ⟨_, rfl⟩
  have hw0 : (Lit.int .i64 0).wf = true := by decide
  obtain ⟨f1, f2, f3⟩ := full_facts K hK n
  rw [← hs0] at f1
  have hs1 : 1995 ≤ s0 ∧ s0 ≤ 2000 := by omega
  obtain ⟨d1, d2, d3, d4, d5⟩ := double_facts (fullS n) f3 f2 (by omega) hw0
  have d6 := d5 (by omega)
  obtain ⟨t1, t2, t3⟩ := take_facts (doubleF (fullS n) 0).2 d3 d2 (by omega) hw0
  obtain ⟨u1, u2, u3⟩ := take_facts (takeF (doubleF (fullS n) 0).2 0).2.2 t3 t2 (by omega) hw0
  have hb := send_size (takeF (takeF (doubleF (fullS n) 0).2 0).2.2 0).2.2 (strOfNums (List.replicate (79990 + m) 0)) m (nums_size _) (by omega)
  refine NetFull_walk a0 a1 k m n s0 w K hK hn hk hm hs0 hA hM ?_ (decide ((fullS n).mail.length < 2000)) d1 ?_ _ hb ?_ d2 (by omega) t2 (by omega) hw0
  · by_cases h : 2000 < n
    · exact .inl ⟨decide_eq_true (by omega), by omega⟩
    · exact .inr ⟨decide_eq_false (by omega), by omega⟩
  · rw [f1, beq_iff_eq]
    exact decide_eq_decide.2 (by omega)
  · rw [beq_iff_eq]
    exact decide_eq_decide.2 (by omega)
end Go.Proofs.Ytnggcegfieeonaa.Nx
