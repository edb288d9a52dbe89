/- What is proved: what slices.Delete of one message comes to. No condition but what each theorem says. -/
import Derived.Test.YtnggcegfieeonaaNwe
import Derived.Lib.SliceRun
namespace Go.Proofs.Ytnggcegfieeonaa.Nx
open Go.RowKit Go.Proofs.YtnggcegfieeonaaW.PrintWords Go.Proofs.YtnggcegfieeonaaW.PrintLast Go.Proofs.YtnggcegfieeonaaW.PrintMore
open Go.Proofs.Ytnggcegfieeonaa.PNetFull
set_option linter.unusedVariables false
set_option linter.unusedSimpArgs false
theorem zero29 (w : World) : (zeroValue 29).run Try.prog w = .ok (.agg #[.int .i64 0, .int .i64 0, .int .i64 0, .string ⟨#[]⟩, .int .i64 0]) w := by kernel_rfl
theorem run_clear_mail (w : World) (ty : TypeId) (b o c : Nat) (ht : w.there b o 5) :
    (Builtin.clear_ #[43] ty #[.slice (some ⟨b, o, none⟩) 1 c]).run Try.prog w = .ok (.tuple #[]) (w.setCells b o zeroMail.cells) := by
  have hzc : (Builtin.zeroCells #[.int .i64 0, .int .i64 0, .int .i64 0, .string ⟨#[]⟩, .int .i64 0] 1).toList = zeroMail.cells := by kernel_rfl
  have hst := run_storeCells_cells (P := Try.prog) b o zeroMail.cells 0 w (fun j hj => by rw [Nat.add_zero]; exact (ht j hj).1) (fun j hj => by rw [Nat.add_zero]; exact (ht j hj).2) (cells_one zeroMail)
  simp only [Nat.add_zero] at hst
  simp [Builtin.clear_, run_underlying Try.underlying43, zero29, Value.cells, hzc, hst]
theorem wpList_clear_mail {ops : Array Oper} {rest : List Oper} {op : Oper} {a : Act} {w : World} {Q : Exit → Act → World → Prop} (hgd : op.guard = none) (x : Operand) (ho : op.op = .call { callee := .builtin .clear, args := #[x], argTypes := #[43] })
    (b o c : Nat) (hx : a.eval x = .slice (some ⟨b, o, none⟩) 1 c) (ht : w.there b o 5) (h : wpList Try.prog ops Q rest (a.put op.dst (.tuple #[])) (w.setCells b o zeroMail.cells)) : wpList Try.prog ops Q (op :: rest) a w :=
  wpList_plain hgd fun K hK => by
    unfold Oper.wp execOp
    simp only [ho, resolve, invoke, builtin, Sem.run_bind, Sem.run_pure, Result.andThen_ok, List.map_toArray, List.map_cons, List.map_nil, hx, run_clear_mail w _ b o c ht]
    exact hK _ _ h
theorem erase_row (cur cur' : Array Value) (l : List Mail) (n i q : Nat) (hq : q = n - 1) (hln : l.length = n) (hi : i < n) (hl : cur.toList.take (n * 5) = vals l) (hs : cur'.size = cur.size) (hz : n * 5 ≤ cur.size) (h1 : ∀ j, j < i * 5 → cur'[j]? = cur[j]?)
    (h2 : ∀ j, j < (n - (i + 1)) * 5 → cur'[i * 5 + j]? = (vals (l.drop (i + 1)))[j]?) : cur'.toList.take (q * 5) = vals (l.eraseIdx i) := by
  have ha : ∀ j, j < n * 5 → cur[j]? = (vals l)[j]? := fun j hj => by rw [← hl, List.getElem?_take, if_pos hj, Array.getElem?_toList]
  apply List.ext_getElem?
  intro j
  rw [List.getElem?_take, List.eraseIdx_eq_take_drop_succ, vals_app, ← vals_take]
  have hlt : ((vals l).take (i * 5)).length = i * 5 := by rw [List.length_take, vals_length, hln]; omega
  by_cases hj : j < q * 5
  · rw [if_pos hj, Array.getElem?_toList]
    by_cases hji : j < i * 5
    · rw [h1 j hji, ha j (by omega), List.getElem?_append_left (by rw [hlt]; exact hji), List.getElem?_take, if_pos hji]
    · rw [List.getElem?_append_right (by rw [hlt]; omega), hlt, ← h2 (j - i * 5) (by omega), show i * 5 + (j - i * 5) = j by omega]
  · rw [if_neg hj, List.getElem?_eq_none]
    rw [List.length_append, hlt, vals_length, List.length_drop, hln]
    omega
set_option maxHeartbeats 8000000 in
set_option maxRecDepth 100000 in
theorem delete_calls (w : World) (b n cap i : Nat) (cur : Array Value) (l : List Mail) (hb : w.heap[b]? = some (.cells cur 29 (0, 0))) (hcap : n ≤ cap) (hmax : cap ≤ maxLen) (hcur : cur.size = cap * 5) (hl : cur.toList.take (n * 5) = vals l) (hln : l.length = n) (hi : i < n) :
    Calls Try.prog 41 #[.slice (some ⟨b, 0, none⟩) n cap, .int .i64 (i : Int), .int .i64 ((i + 1 : Nat) : Int)] w fun e w' => e = .returned (.slice (some ⟨b, 0, none⟩) (n - 1) cap) ∧ ∃ cur', w'.heap[b]? = some (.cells cur' 29 (0, 0)) ∧ cur'.size = cur.size ∧ cur'.toList.take ((n - 1) * 5) = vals (l.eraseIdx i) ∧ (∀ k, k ≠ b → w'.heap[k]? = w.heap[k]?) ∧ Below b w w' := by
  obtain ⟨q, hq⟩ : ∃ q, q = n - 1 := ⟨_, rfl⟩
  rw [← hq]
  have HQ := Aside0.mk hq
  obtain ⟨i0, hi0, hz0, hz1, hz2⟩ := info_parts info29
  have e0 : decide (0 ≤ (i : Int)) = true := decide_eq_true (by omega)
  have e1 : decide ((i : Int) ≤ ((i + 1 : Nat) : Int)) = true := decide_eq_true (by omega)
  have e2 : decide (((i + 1 : Nat) : Int) ≤ (n : Int)) = true := decide_eq_true (by omega)
  have e3 : decide ((n : Int) ≤ (cap : Int)) = true := decide_eq_true (by omega)
  have e4 : ((i : Int) == ((i + 1 : Nat) : Int)) = false := by rw [beq_eq_false_iff_ne]; omega
  have c0 : (0 : Int) ≤ (i : Int) := by omega
  have c1 : (i : Int) ≤ ((i + 1 : Nat) : Int) := by omega
  have c2 : ((i + 1 : Nat) : Int) ≤ (n : Int) := by omega
  have c3 : (n : Int) ≤ (cap : Int) := by omega
  have HBB := Aside0.mk hb
  have HCAP := Aside0.mk hcap
  have HMAX := Aside0.mk hmax
  have HCUR := Aside0.mk hcur
  have HLL := Aside0.mk hl
  have HLN := Aside0.mk hln
  have HII := Aside0.mk hi
  clear hb hcap hmax hcur hl hln hi hq
  go_enter Try.func41, Try.ntmps41
  go_upto_region 5 with (fail)
  (try simp only [Act.put, List.setIfInBounds_toArray, List.set_cons_zero, List.set_cons_succ])
  go_cut [0] (fun v0 wc => v0 = .slice (some ⟨b, 0, none⟩) q cap ∧ Aside0 (∃ cur', wc.heap[b]? = some (.cells cur' 29 (0, 0)) ∧ cur'.size = cur.size ∧ cur'.toList.take (q * 5) = vals (l.eraseIdx i) ∧ (∀ k, k ≠ b → wc.heap[k]? = w.heap[k]?) ∧ Below b w wc))
  case first =>
    have hnl : (vals (l.drop (i + 1))).length = (n - (i + 1)) * 5 := by rw [vals_length, List.length_drop, HLN.out]
    have hone : ∀ u ∈ vals (l.drop (i + 1)), u.oneCell' = true := by
      intro u hu
      obtain ⟨m, _, hu⟩ := List.mem_flatMap.1 hu
      exact cells_one m u hu
    have hspare : ∀ j, j < (vals (l.drop (i + 1))).length → (w.drew.cell? ⟨b, 0 + i * 5 + j, none⟩).isSome = true ∧ w.drew.frozen? ⟨b, 0 + i * 5 + j, none⟩ = false := by
      intro j hj
      rw [hnl] at hj
      have h1 := HCUR.out
      have h2 := HCAP.out
      have h3 := HII.out
      exact ⟨by rw [show w.drew.cell? ⟨b, 0 + i * 5 + j, none⟩ = w.cell? ⟨b, 0 + i * 5 + j, none⟩ from rfl, cell_of_row w b _ cur 29 (0, 0) HBB.out, Array.getElem?_eq_getElem (by omega)]; rfl, (blk_frozen HBB.out (0 + i * 5 + j) :)⟩
    have hroom : i + (n - (i + 1)) ≤ cap := by have := HCAP.out; have := HII.out; omega
    have HE := Aside0.mk (show i + (n - (i + 1)) = q by have := HII.out; have := HQ.out; omega)
    have HPOST := Aside0.mk (show ∃ cur', (w.drew.setCells b (0 + i * 5) (vals (l.drop (i + 1)))).heap[b]? = some (.cells cur' 29 (0, 0)) ∧ cur'.size = cur.size ∧ cur'.toList.take (q * 5) = vals (l.eraseIdx i) ∧ (∀ k, k ≠ b → (w.drew.setCells b (0 + i * 5) (vals (l.drop (i + 1)))).heap[k]? = w.heap[k]?) ∧ Below b w (w.drew.setCells b (0 + i * 5) (vals (l.drop (i + 1)))) by
      obtain ⟨cur', p1, p2, p3, p4⟩ := setCells_row b 29 (vals (l.drop (i + 1))) w.drew (0 + i * 5) cur HBB.out
      have h1 := HCUR.out
      have h2 := HCAP.out
      have h3 := HII.out
      rw [Nat.zero_add] at p3 p4
      refine ⟨cur', p1, p2, erase_row cur cur' l n i q HQ.out HLN.out HII.out HLL.out p2 (by omega) p3 (fun j hj => p4 j (by rw [hnl]; exact hj) (by omega)), fun k hk => setCells_far b _ w.drew _ k hk, setCells_below b b (Nat.le_refl _) _ w w.drew _ (Below.drew (Below.refl _ _))⟩)
    have k1 : (i : Int) ≤ (cap : Int) := by have := HCAP.out; have := HII.out; omega
    have k2 : (i : Int) + 1 ≤ (n : Int) := by have := HII.out; omega
    have k3 : (0 : Int) ≤ (i : Int) + 1 := by omega
    have k4 : ((i : Int) + 1).toNat = i + 1 := by omega
    have k5 : (i : Int) + 1 ≤ (cap : Int) := by have := HCAP.out; have := HII.out; omega
    by_cases hce : cap = i + 1
    · have hread : ∀ j u, (vals (l.drop (i + 1)))[j]? = some u → w.drew.cell? ((⟨b, 0, none⟩ : Addr).add j) = some u := by
        intro j u hu
        have h2 := HCAP.out
        have h3 := HII.out
        rw [List.getElem?_eq_none (by rw [hnl]; omega)] at hu
        cases hu
      have d1 : (cap = i + 1) = True := eq_true hce
      clear hce
      go_region_law ((refine step_append_room rfl (.tmp 22) (.tmp 25) 43 rfl 29 i0 5 Try.underlying43 hi0 hz1 b 0 i cap (by simp [Act.eval, Act.put]) ⟨b, 0, none⟩ (n - (i + 1)) (cap - (i + 1)) (vals (l.drop (i + 1))) (by simp [Act.eval, Act.put]) hnl hread hone hroom hspare ?_))
      go_wp2
      go_meet
      case rel => exact ⟨by rw [HE.out], ⟨by have h := HPOST.out; rw [Nat.zero_add] at h; exact h⟩⟩
    · have hread : ∀ j u, (vals (l.drop (i + 1)))[j]? = some u → w.drew.cell? ((⟨b, (i + 1) * 5, none⟩ : Addr).add j) = some u := by
        intro j u hu
        have hj := (List.getElem?_eq_some_iff.1 hu).1
        rw [hnl] at hj
        have h3 := HII.out
        rw [← vals_drop, List.getElem?_drop] at hu
        rw [Addr.add_mid, show w.drew.cell? ⟨b, (i + 1) * 5 + j, none⟩ = w.cell? ⟨b, (i + 1) * 5 + j, none⟩ from rfl, cell_of_row w b _ cur 29 (0, 0) HBB.out, ← hu, ← HLL.out, List.getElem?_take, if_pos (by omega), Array.getElem?_toList]
      have d1 : (cap = i + 1) = False := eq_false hce
      clear hce
      go_region_law ((refine step_append_room rfl (.tmp 22) (.tmp 25) 43 rfl 29 i0 5 Try.underlying43 hi0 hz1 b 0 i cap (by simp [Act.eval, Act.put]) ⟨b, (i + 1) * 5, none⟩ (n - (i + 1)) (cap - (i + 1)) (vals (l.drop (i + 1))) (by simp [Act.eval, Act.put]) hnl hread hone hroom hspare ?_))
      go_wp2
      go_meet
      case rel => exact ⟨by rw [HE.out], ⟨by have h := HPOST.out; rw [Nat.zero_add] at h; exact h⟩⟩
  case rest =>
    obtain ⟨rfl, HP⟩ := hcut
    obtain ⟨cur', p1, p2, p3, p4, p5⟩ := HP.out
    have HP1 := Aside0.mk p1
    have HP2 := Aside0.mk p2
    have HP3 := Aside0.mk p3
    have HP4 := Aside0.mk p4
    have HP5 := Aside0.mk p5
    clear p1 p2 p3 p4 p5
    have HTH := Aside0.mk (show wc.there b (q * 5) 5 from fun j hj => by
      have h0 := HP2.out
      have h1 := HCUR.out
      have h2 := HCAP.out
      have h3 := HII.out
      have h4 := HQ.out
      exact ⟨by rw [cell_of_row wc b _ cur' 29 (0, 0) HP1.out, Array.getElem?_eq_getElem (by omega)]; rfl, blk_frozen HP1.out _⟩)
    have k1 : (0 : Int) ≤ (q : Int) := by omega
    have k2 : (q : Int) ≤ (n : Int) := by have := HQ.out; omega
    have k3 : (cap = q) = False := eq_false (by have := HQ.out; have := HCAP.out; have := HII.out; omega)
    have k4 : n - q = 1 := by have := HQ.out; have := HII.out; omega
    have hclear := run_clear_mail wc 0 b (q * 5) (cap - q) HTH.out
    go_wp2
    go_ret
    obtain ⟨cur2, r1, r2, r3, r4⟩ := setCells_row b 29 zeroMail.cells wc (q * 5) cur' HP1.out
    refine ⟨rfl, cur2, r1, by rw [r2]; exact HP2.out, ?_, fun k hk => (setCells_far b _ wc _ k hk).trans (HP4.out k hk), setCells_below b b (Nat.le_refl _) _ w wc _ HP5.out⟩
    rw [← HP3.out]
    apply List.ext_getElem?
    intro j
    rw [List.getElem?_take, List.getElem?_take]
    by_cases hj : j < q * 5
    · rw [if_pos hj, if_pos hj, Array.getElem?_toList, Array.getElem?_toList, r3 j hj]
    · rw [if_neg hj, if_neg hj]
end Go.Proofs.Ytnggcegfieeonaa.Nx
