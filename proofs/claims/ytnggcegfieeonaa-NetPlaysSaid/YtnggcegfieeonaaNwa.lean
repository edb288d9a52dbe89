/- What is proved: what the network's small methods come to. No condition but what each theorem says. -/
import Derived.Test.YtnggcegfieeonaaNets
namespace Go.Proofs.Ytnggcegfieeonaa.Nx
open Go.RowKit Go.Proofs.YtnggcegfieeonaaW.PrintWords Go.Proofs.YtnggcegfieeonaaW.PrintLast Go.Proofs.YtnggcegfieeonaaW.PrintMore
open Go.Proofs.Ytnggcegfieeonaa.PNetFull
set_option linter.unusedVariables false
set_option linter.unusedSimpArgs false
theorem end_told (a : Int) : net_end.f a = some (decide (0 ≤ a ∧ a < 64)) := by
  unfold net_end.f
  by_cases h : a ≥ 0
  · rw [if_pos h]
    congr 1
    exact decide_eq_decide.2 ⟨fun x => ⟨h, x⟩, fun x => x.2⟩
  · rw [if_neg h]
    congr 1
    exact (decide_eq_false fun x => h x.1).symm
def two (a b : Int) : Bool := decide (0 ≤ a ∧ a < 64) && (decide (0 ≤ b ∧ b < 64) && (a != b))
theorem two_told (a b : Int) : net_two.f a b = some (two a b) := by
  unfold net_two.f two
  rw [end_told, Option.bind_some]
  by_cases h : decide (0 ≤ a ∧ a < 64) = true
  · rw [h, if_pos rfl, end_told, Option.bind_some]
    by_cases k : decide (0 ≤ b ∧ b < 64) = true
    · rw [k, if_pos rfl]; rfl
    · rw [Bool.not_eq_true] at k
      rw [k, if_neg (by simp)]; rfl
  · rw [Bool.not_eq_true] at h
    rw [h, if_neg (by simp)]; rfl
theorem two_true (a b : Nat) (ha : a < 64) (hb : b < 64) (hab : a ≠ b) : net_two.f (a : Int) (b : Int) = some true := by
  rw [two_told]
  unfold two
  rw [decide_eq_true ⟨by omega, by omega⟩, decide_eq_true ⟨by omega, by omega⟩, bne_iff_ne.2 (by omega)]
  rfl
set_option maxHeartbeats 8000000 in
set_option maxRecDepth 100000 in
theorem waits_calls {B : Nat} {w : World} {g : Nat} {v : Value} {S : Net} (h : NetAt B w g v S) :
    Calls Try.prog 16 #[.pointer (some ⟨g, 0, none⟩)] w fun e w' => e = .returned (.int .i64 S.mail.length) ∧ w' = w := by
  have hu55 := Try.underlying55
  have hc0 := h.cell0
  obtain ⟨A, c, rfl, _, _⟩ := h.slice
  have HN := Aside0.mk h
  clear h
  go_enter Try.func16, Try.ntmps16
  go_wp2
  go_ret
  exact ⟨rfl, rfl⟩
set_option maxHeartbeats 8000000 in
set_option maxRecDepth 100000 in
theorem tick_calls {B : Nat} {w : World} {g : Nat} {v : Value} {S : Net} (h : NetAt B w g v S) :
    Calls Try.prog 20 #[.pointer (some ⟨g, 0, none⟩)] w fun e w' => e = .returned (.tuple #[]) ∧ w' = w.setCell ⟨g, 2, none⟩ (.int .i64 (wrap64 (S.now + 1))) := by
  have hu55 := Try.underlying55
  have hc2 := h.cell2
  have hf2 := h.frozen 2
  have HN := Aside0.mk h
  clear h
  go_enter Try.func20, Try.ntmps20
  go_wp2
  go_end0
  exact ⟨rfl, rfl⟩
set_option maxHeartbeats 8000000 in
set_option maxRecDepth 100000 in
theorem parted_calls {B : Nat} {w : World} {g : Nat} {v : Value} {S : Net} (h : NetAt B w g v S) (a b : Nat) (ha : a < 64) (hb : b < 64) (hab : a ≠ b) :
    Calls Try.prog 17 #[.pointer (some ⟨g, 0, none⟩), .int .i64 a, .int .i64 b] w fun e w' => e = .returned (.bool (S.P (a * 64 + b))) ∧ Drawn0 w w' := by
  have hu55 := Try.underlying55
  have hu53 := Try.underlying53
  have hu52 := Try.underlying52
  have hc3 := h.cellP a b ha hb
  have H2 := Aside0.mk (show net_two.f (a : Int) (b : Int) = some true from two_true a b ha hb hab)
  have HN := Aside0.mk h
  clear h
  have e0 : decide (0 ≤ (a : Int)) = true := decide_eq_true (by omega)
  have e1 : decide ((a : Int) < 64) = true := decide_eq_true (by omega)
  have e2 : decide (0 ≤ (b : Int)) = true := decide_eq_true (by omega)
  have e3 : decide ((b : Int) < 64) = true := decide_eq_true (by omega)
  go_enter Try.func17, Try.ntmps17
  go_wp2_with (first | (go_at_call 36; (with_reducible refine (net_two.calls a b true _ H2.out).mono ?_); rintro e w2 ⟨rfl, ⟨nd, rfl⟩⟩))
  go_ret
  exact ⟨rfl, _, rfl⟩

set_option maxHeartbeats 8000000 in
set_option maxRecDepth 100000 in
theorem put_calls {B : Nat} {w : World} {g : Nat} {v : Value} {S : Net} (h : NetAt B w g v S) (m : Mail) (hm : S.mail.length < 1000000) :
    Calls Try.prog 37 #[.pointer (some ⟨g, 0, none⟩), m.val] w fun e w' => e = .returned (.int .i64 (wrap64 (S.last + 1))) ∧ ∃ v', NetAt B w' g v' { S with mail := S.mail ++ [{ m with id := wrap64 (S.last + 1), age := S.now }], last := wrap64 (S.last + 1) } ∧ Kp B w g v w' v' := by
  have hu55 := Try.underlying55
  have hu29 := Try.underlying29
  have HN := Aside0.mk h
  have HV := Aside0.mk (show ∀ b, b = w.heap.size → v.ownBlock ≠ some b from fun b e k => by have := (h.own_lt b k).2; omega)
  have HGB := Aside0.mk (show ∀ b, b = w.heap.size → B ≤ b from fun b e => by rw [e]; exact Nat.le_trans h.ge (Nat.le_of_lt h.lt))
  clear h
  unfold Mail.val
  go_enter Try.func37, Try.ntmps37
  go_upto_region 2 with (first
    | ((with_reducible refine gate_dst (N := 3) rfl ?_); refine box_event ?hg (N := 3) ?hd (cs := #[.int .i64 m.id, .int .i64 m.frm, .int .i64 m.to_, .string m.body, .int .i64 m.age]) (t := 29) ?hr ?_; (case hd => rfl); (case hg => rfl); (case hr => first | (go_simp; done) | (go_simp; rfl)); intro gb hg w1 hbox hb; have HB1 := Aside0.mk hb; have HG1 := Aside0.mk hg; have HX1 := Aside0.mk hbox; have HN1 := Aside0.mk (HN.out.below hb); have hc1 := HN1.out.cell1; have hf1 := HN1.out.frozen 1; clear hbox hb hg))
  have HN2 := Aside0.mk (HN1.out.set1 (wrap64 (S.last + 1)))
  have HX2 := Aside0.mk (blk_far (p := ⟨g, 1, none⟩) HX1.out (by rw [HG1.out]; exact Nat.ne_of_gt HN.out.lt) (.int .i64 (wrap64 (S.last + 1))))
  have HB2 := Aside0.mk ((HB1.out.mono (Nat.le_trans HN.out.ge (Nat.le_of_lt HN.out.lt))).setCell (p := ⟨g, 1, none⟩) HN.out.ge (.int .i64 (wrap64 (S.last + 1))))
  have HK2 := Aside0.mk ((KeepBut.of_below HB1.out g v.ownBlock).set_ 1 (.int .i64 (wrap64 (S.last + 1))))
  generalize hq : w1.setCell ⟨g, 1, none⟩ (.int .i64 (wrap64 (S.last + 1))) = w2 at HN2 HX2 HB2 HK2 ⊢
  clear hc1 hf1 hq
  go_cut [15] (fun v15 wc => v15 = .int .i64 (wrap64 (S.last + 1)) ∧ Aside0 (NetAt B wc g v { S with last := wrap64 (S.last + 1) }) ∧ Aside0 (wc.heap[gb]? = some (.cells #[.int .i64 (wrap64 (S.last + 1)), .int .i64 m.frm, .int .i64 m.to_, .string m.body, .int .i64 S.now] 29 (0, 0))) ∧ Aside0 (Below B w wc) ∧ Aside0 (KeepBut w wc g v.ownBlock))
  case first =>
    have hc1 := HN2.out.cell1
    have hc2 := HN2.out.cell2
    have hx0 := blk_cell HX2.out 0
    have hx4 := blk_cell HX2.out 4
    have hy0 := blk_frozen HX2.out 0
    have hy4 := blk_frozen HX2.out 4
    have hne : g ≠ gb := by rw [HG1.out]; exact Nat.ne_of_lt HN.out.lt
    have hne2 : gb ≠ g := hne.symm
    simp only [List.getElem?_toArray, List.getElem?_cons_zero, List.getElem?_cons_succ] at hx0 hx4
    go_region
    go_wp2
    go_meet
    case rel =>
      refine ⟨rfl, ⟨?_⟩, ⟨?_⟩, ⟨?_⟩, ⟨?_⟩⟩
      · exact ((HN2.out.far _ hne2 (HV.out gb HG1.out)).far _ hne2 (HV.out gb HG1.out)).drew
      · exact blk_drew (blk_set (blk_set HX2.out 0 _) 4 _)
      · exact ((HB2.out.setCell (HGB.out gb HG1.out) _).setCell (HGB.out gb HG1.out) _).drew
      · exact keepD (keep_set (keep_set HK2.out (Nat.le_of_eq HG1.out.symm) _) (Nat.le_of_eq HG1.out.symm) _)
  case rest =>
    obtain ⟨rfl, HN3, HX3, HB3, HK3⟩ := hcut
    have hc0 := HN3.out.cell0
    have hf0 := HN3.out.frozen 0
    have hlg := HN3.out.lt
    have hlb := blk_lt HX3.out
    have hx0 := blk_cell HX3.out 0
    have hx1 := blk_cell HX3.out 1
    have hx2 := blk_cell HX3.out 2
    have hx3 := blk_cell HX3.out 3
    have hx4 := blk_cell HX3.out 4
    simp only [List.getElem?_toArray, List.getElem?_cons_zero, List.getElem?_cons_succ] at hx0 hx1 hx2 hx3 hx4
    obtain ⟨i0, hi0, hz0, hz1, hz2⟩ := info_parts info29
    have hown := HN3.out.own
    have n0 := World.new_ne wc ⟨g, 0, none⟩ hc0
    have m0 := World.new_ne wc ⟨gb, 0, none⟩ hx0
    have HO := Aside0.mk hown
    clear hown
    go_wp2_with fail
    have hBB : B ≤ wc.heap.size := Nat.le_trans HN3.out.ge (Nat.le_of_lt hlg)
    have HNE := Aside0.mk HN3.out.ne
    go_region_law ((refine step_append_lies _ (by rfl) _ _ _ (by rfl) B 29 i0 _ 5 48 Try.underlying43 hi0 hz0 hz1 hz2 rfl (by omega) v _ _ (by rfl) ((HO.out.alloc _).drew) ⟨wc.heap.size, 0, none⟩ 1 1 [.int .i64 (wrap64 (S.last + 1)), .int .i64 m.frm, .int .i64 m.to_, .string m.body, .int .i64 S.now] (by rfl) (by rfl) (World.news_of_block (cs := #[.int .i64 (wrap64 (S.last + 1)), .int .i64 m.frm, .int .i64 m.to_, .string m.body, .int .i64 S.now]) (t := 29) (fr := (0, 0)) (heap_alloc_new wc _)) (by simp [Value.oneCell']) (by omega) (by unfold maxLen; omega) (by omega) (by simp; omega) (wc.heap.size + 1) (by simp) ?_; intro gg cap w1 hown1 hgrow hat hlt; have hfz := (hgrow.frozen_far ⟨g, 0, none⟩ (by simp; omega) (Ne.symm HNE.out)).trans (((HN3.out.alloc _).drew).frozen 0); have hcz := (hgrow.cell_far ⟨g, 0, none⟩ (by simp; omega) (Ne.symm HNE.out)).trans (((HN3.out.alloc _).drew).cell0); have hcy := (hgrow.cell_far ⟨g, 1, none⟩ (by simp; omega) (Ne.symm HNE.out)).trans (((HN3.out.alloc _).drew).cell1); have HG := Aside0.mk hgrow; have HW := Aside0.mk hown1; have HAT := Aside0.mk hat; clear hgrow hown1 hat))
    all_goals
      go_wp2
      go_ret
      have hlt2 : w.heap.size ≤ wc.heap.size := HB3.out.size
      have hfin := ((HN3.out.alloc _).drew).appended HG.out (S.mail ++ [{ m with id := wrap64 (S.last + 1), age := S.now }]) _ (by rw [vals_app, List.length_append]; exact HW.out)
      refine ⟨rfl, _, hfin, ?_, ?_, ?_⟩
      · exact (((HB3.out.alloc hBB _).drew).grown HG.out (by simp; omega) (fun k hk => (HN3.out.own_lt k hk).1)).setCell HN3.out.ge _
      · exact (keep_grown (keepD (keepA HK3.out _)) HG.out).set_ 0 _
      · rcases HAT.out with e | e
        · exact .inl (by rw [e]; rfl)
        · exact .inr ⟨gg, rfl, by omega⟩
end Go.Proofs.Ytnggcegfieeonaa.Nx
