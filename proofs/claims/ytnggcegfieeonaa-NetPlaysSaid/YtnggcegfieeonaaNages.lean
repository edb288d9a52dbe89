/- What is proved: the plain facts of the statement NetAges. No condition but what each theorem says. -/
import Derived.Test.YtnggcegfieeonaaNwk
import Derived.Test.YtnggcegfieeonaaNfull
namespace Go.Proofs.Ytnggcegfieeonaa.Nx
open Go.RowKit Go.Proofs.YtnggcegfieeonaaW.PrintWords Go.Proofs.YtnggcegfieeonaaW.PrintLast Go.Proofs.YtnggcegfieeonaaW.PrintMore
open Go.Proofs.Ytnggcegfieeonaa.PNetFull
set_option linter.unusedVariables false
set_option linter.unusedSimpArgs false
/-- How many ticks a number tells. -/
def tk (x : Int) : Nat := (if Int.tmod x 51 < 0 then -(Int.tmod x 51) else Int.tmod x 51).toNat
theorem tk_facts (x : Int) : tk x ≤ 50 ∧ ((decide (Int.tmod x 51 < 0) = true ∧ wrap64 (-(Int.tmod x 51)) = (tk x : Int)) ∨ (decide (Int.tmod x 51 < 0) = false ∧ Int.tmod x 51 = (tk x : Int))) := by
  have h1 : Int.tmod x 51 < 51 := Int.tmod_lt_of_pos _ (by omega)
  have h2 : -51 < Int.tmod x 51 := Int.lt_tmod_of_pos x (show (0 : Int) < 51 by omega)
  unfold tk
  generalize Int.tmod x 51 = t at h1 h2
  by_cases h : t < 0
  · rw [if_pos h]
    exact ⟨by omega, .inl ⟨decide_eq_true h, by unfold wrap64; omega⟩⟩
  · rw [if_neg h]
    exact ⟨by omega, .inr ⟨decide_eq_false h, by omega⟩⟩
/-- The ticks ahead of the first i. -/
def tT (l : List Int) : Nat → Nat
  | 0 => 0
  | i + 1 => tT l i + tk (l.getD i 0)
theorem tT_le (l : List Int) (i : Nat) : tT l i ≤ 50 * i := by
  induction i with
  | zero => exact Nat.le_refl _
  | succ i ih => have := (tk_facts (l.getD i 0)).1; rw [tT]; omega
theorem tT_up (l : List Int) (i d : Nat) : tT l i ≤ tT l (i + d) := by
  induction d with
  | zero => exact Nat.le_refl _
  | succ d ih => rw [← Nat.add_assoc, tT]; omega
def agesM (l : List Int) (i : Nat) : List Mail := (List.range i).map fun j => ⟨((j + 1 : Nat) : Int), 1, 2, ⟨#[120]⟩, ((tT l (j + 1) : Nat) : Int)⟩
def agesS (l : List Int) (i t : Nat) : Net := ⟨agesM l i, (i : Int), ((tT l i + t : Nat) : Int), fun _ => false⟩
theorem agesM_len (l : List Int) (i : Nat) : (agesM l i).length = i := by unfold agesM; simp
theorem agesM_step (l : List Int) (i : Nat) : agesM l (i + 1) = agesM l i ++ [⟨((i + 1 : Nat) : Int), 1, 2, ⟨#[120]⟩, ((tT l (i + 1) : Nat) : Int)⟩] := by
  unfold agesM
  rw [List.range_succ, List.map_append]
  rfl
theorem agesM_at (l : List Int) {n j : Nat} (h : j < n) : (agesM l n).getD j zeroMail = ⟨((j + 1 : Nat) : Int), 1, 2, ⟨#[120]⟩, ((tT l (j + 1) : Nat) : Int)⟩ := by
  unfold agesM
  rw [List.getD_eq_getElem?_getD, List.getElem?_map, List.getElem?_range h]
  rfl
theorem ages_good (l : List Int) (i t : Nat) : (agesS l i t).Good := fun m hm => by
  obtain ⟨j, _, rfl⟩ := List.mem_map.1 hm
  exact ⟨(by decide : (0 : Int) ≤ 1), (by decide : (1 : Int) < 64), (by decide : (0 : Int) ≤ 2), (by decide : (2 : Int) < 64)⟩
theorem ages_send (l : List Int) (i : Nat) (hi : i < 20) : sendF (agesS l i (tk (l.getD i 0))) 1 2 ⟨#[120]⟩ = (((i + 1 : Nat) : Int), true, agesS l (i + 1) 0) := by
  have hl : (agesS l i (tk (l.getD i 0))).mail.length < 2000 := by
    show (agesM l i).length < 2000
    rw [agesM_len]; omega
  have ew : wrap64 ((i : Int) + 1) = ((i + 1 : Nat) : Int) := by unfold wrap64; omega
  rw [sendF_yes (agesS l i (tk (l.getD i 0))) 1 2 ⟨#[120]⟩ (by decide) (show (1 : Nat) ≤ 80000 by decide) hl]
  show (wrap64 ((i : Int) + 1), true, _) = _
  rw [show wrap64 ((agesS l i (tk (l.getD i 0))).last + 1) = ((i + 1 : Nat) : Int) from ew, ew]
  unfold agesS
  rw [agesM_step]
  rfl
theorem readyI_range (S : Net) (h : S.P = fun _ => false) (n : Nat) : readyI S n = (List.range n).map fun j => ((j : Nat) : Int) := by
  induction n with
  | zero => rfl
  | succ n ih => rw [readyI, h, if_neg (by simp), ih, List.range_succ, List.map_append]; rfl
theorem ages_min (l : List Int) (n : Nat) (hn : n ≤ 20) (i : Nat) (hi : i < n) : minI (agesM l n) i = (agesM l n).getD 0 zeroMail := by
  induction i with
  | zero => rfl
  | succ i ih =>
    have h0 := agesM_at l (show 0 < n by omega)
    have h1 := tT_up l (0 + 1) (i + 1)
    have h2 := tT_le l (0 + 1 + (i + 1))
    rw [show 0 + 1 + (i + 1) = i + 1 + 1 by omega] at h1 h2
    have hge : ¬ wrap64 (((agesM l n).getD (i + 1) zeroMail).age - ((agesM l n).getD 0 zeroMail).age) < 0 := by
      rw [agesM_at l hi, h0]
      show ¬ wrap64 (((tT l (i + 1 + 1) : Nat) : Int) - ((tT l (0 + 1) : Nat) : Int)) < 0
      unfold wrap64
      omega
    rw [minI, ih (by omega), if_neg hge]
/-- A row of another type lives on. -/
theorem R_kp {α : Type} {d : Kd α} {e : Nat} {B base : Nat} {W W1 : World} {g : Nat} {v v1 u : Value} {ok : Nat → Prop} {xs : List α} {S : Net} (h : d.R e W base ok u xs) (hn : NetAt B W g v S) (hk : Kp B W g v W1 v1) (h1 : ∀ q, q ∈ e :: d.E → q ≠ 55 ∧ q ≠ 29) : d.R e W1 base ok u xs := by
  refine Kd.R_mono (Kd.R_move (Kd.R_bound h) fun k hk2 => ?_) (fun _ hk2 => hk2.1)
  obtain ⟨_, _, hlt, q, hq, cells, hc⟩ := hk2
  refine hk.keep.2 k hlt (fun e => ?_) (fun e => ?_)
  · obtain ⟨cs, hb, _⟩ := hn.row
    rw [e, hb] at hc
    injection hc with hc
    injection hc with _ ht
    exact (h1 q hq).1 ht.symm
  · obtain ⟨cells2, hc2⟩ := own_typed hn.own k e.symm
    rw [hc2] at hc
    injection hc with hc
    injection hc with _ ht
    exact (h1 q hq).2 ht.symm
theorem NetAt.other {B : Nat} {W W1 : World} {g : Nat} {v : Value} {S : Net} {row : Option Nat} {t : TypeId} (h : NetAt B W g v S) (hg : W.grownBy W1 row) (hty : ∀ k, row = some k → ∃ cells, W.heap[k]? = some (.cells cells t (0, 0))) (h1 : t ≠ 55) (h2 : t ≠ 29) : NetAt B W1 g v S := by
  refine h.keep hg.size (hg.block g h.lt fun e => ?_) (fun b hb => hg.block b (h.own_lt b hb).2 fun e => ?_)
  · obtain ⟨cells, hc⟩ := hty g e.symm
    obtain ⟨cs, hb, _⟩ := h.row
    rw [hb] at hc
    injection hc with hc
    injection hc with _ ht
    exact h1 ht.symm
  · obtain ⟨cells, hc⟩ := hty b e.symm
    obtain ⟨cells2, hc2⟩ := own_typed h.own b hb
    rw [hc2] at hc
    injection hc with hc
    injection hc with _ ht
    exact h2 ht.symm
theorem tick_net {B : Nat} {w : World} {g : Nat} {v : Value} {S : Net} (h : NetAt B w g v S) :
    Calls Try.prog 20 #[.pointer (some ⟨g, 0, none⟩)] w fun e w' => e = .returned (.tuple #[]) ∧ NetAt B w' g v { S with now := wrap64 (S.now + 1) } ∧ Kp B w g v w' v := by
  refine (tick_calls h).mono fun e w' hh => ?_
  obtain ⟨he, rfl⟩ := hh
  exact ⟨he, h.set2 _, (Kp.refl _ _ _ _).set h.ge _ _⟩
def bornI (l : List Int) (i : Nat) : List Int := (List.range i).map fun j => ((tT l (j + 1) : Nat) : Int)
theorem born_step (l : List Int) (i : Nat) : bornI l (i + 1) = bornI l i ++ [((tT l (i + 1) : Nat) : Int)] := by
  unfold bornI
  rw [List.range_succ, List.map_append]
  rfl
theorem born_len (l : List Int) (i : Nat) : (bornI l i).length = i := by unfold bornI; simp
theorem told_ages (l : List Int) (n : Nat) (hn : n ≤ 20) : (readyM (agesS l n 0) (readyI (agesS l n 0) (agesS l n 0).mail.length)).length = n ∧ ∀ k, k < n → (readyM (agesS l n 0) (readyI (agesS l n 0) (agesS l n 0).mail.length)).getD k zeroMail = ⟨((k + 1 : Nat) : Int), 1, 2, ⟨#[120]⟩, ((tT l n : Nat) : Int) - ((tT l (k + 1) : Nat) : Int)⟩ := by
  have hl : (agesS l n 0).mail.length = n := agesM_len l n
  rw [hl, readyI_range _ rfl]
  unfold readyM
  refine ⟨by simp, fun k hk => ?_⟩
  rw [List.getD_eq_getElem?_getD, List.getElem?_map, List.getElem?_map, List.getElem?_range hk]
  show told (agesS l n 0) ((agesM l n).getD (((k : Nat) : Int)).toNat zeroMail) = _
  rw [Int.toNat_natCast, agesM_at l hk]
  unfold told
  show (⟨((k + 1 : Nat) : Int), 1, 2, ⟨#[120]⟩, wrap64 (((tT l n + 0 : Nat) : Int) - ((tT l (k + 1) : Nat) : Int))⟩ : Mail) = _
  have h1 := tT_le l n
  have h2 := tT_le l (k + 1)
  have e : wrap64 (((tT l n + 0 : Nat) : Int) - ((tT l (k + 1) : Nat) : Int)) = ((tT l n : Nat) : Int) - ((tT l (k + 1) : Nat) : Int) := by unfold wrap64; omega
  rw [e]
theorem told_oldest (l : List Int) (n : Nat) (hn : n ≤ 20) (h0 : 0 < n) : (told (agesS l n 0) (minI (agesS l n 0).mail ((agesS l n 0).mail.length - 1))).age = ((tT l n : Nat) : Int) - ((tT l 1 : Nat) : Int) := by
  have hl : (agesS l n 0).mail.length = n := agesM_len l n
  rw [hl]
  show (told (agesS l n 0) (minI (agesM l n) (n - 1))).age = _
  rw [ages_min l n hn (n - 1) (by omega), agesM_at l h0]
  show wrap64 (((tT l n + 0 : Nat) : Int) - ((tT l 1 : Nat) : Int)) = _
  have h1 := tT_le l n
  have h2 := tT_le l 1
  unfold wrap64
  omega
theorem R_mailat {w : World} {base b n c : Nat} {ok : Nat → Prop} {xs : List Mail} (h : Kd.R kMail 29 w base ok (.slice (some ⟨b, 0, none⟩) n c) xs) (i j : Nat) (hi : i < xs.length) (u : Value) (hu : ((xs.getD i zeroMail).cells)[j]? = some u) : w.cell? ⟨b, i * 5 + j, none⟩ = some u := by
  obtain ⟨ad, cs, ea, _, hk, hc⟩ := Kd.C_get (Kd.R_reads' h).2.2 zeroMail (i : Int) (Int.natCast_nonneg _) (by omega)
  injection ea with ea
  subst ea
  rw [Int.toNat_natCast] at hk hc
  have hk' : cs = (xs.getD i zeroMail).cells := hk
  subst hk'
  have := hc j u hu
  rwa [add_plain] at this
theorem R_intat {w : World} {base b n c : Nat} {ok : Nat → Prop} {xs : List Int} (h : Kd.R (Kd.int .i64) 3 w base ok (.slice (some ⟨b, 0, none⟩) n c) xs) (i : Nat) (hi : i < xs.length) : w.cell? ⟨b, i, none⟩ = some (.int .i64 (xs.getD i 0)) := by
  obtain ⟨ad, ea, hc⟩ := Kd.at_int (Kd.R_reads' h).2.2 (i : Int) (Int.natCast_nonneg _) (by omega)
  injection ea with ea
  subst ea
  rw [Int.toNat_natCast, add_plain] at hc
  unfold rd at hc
  rwa [Int.toNat_natCast] at hc
theorem R_plain {α : Type} {d : Kd α} {e : Nat} {w : World} {base : Nat} {ok : Nat → Prop} {v : Value} {xs : List α} (h : d.R e w base ok v xs) (h0 : 0 < xs.length) : ∃ b c, v = .slice (some ⟨b, 0, none⟩) xs.length c ∧ b < w.heap.size := by
  obtain ⟨A, c, rfl⟩ := Kd.R_slice h
  cases A with
  | none =>
    obtain ⟨ad, ea, _⟩ := (Kd.R_reads' h).2.2.2.2 h0
    cases ea
  | some ad =>
    obtain ⟨g, rfl⟩ := Kd.R_head h
    exact ⟨g, c, rfl, Kd.R_lt h g rfl⟩
theorem born_at (l : List Int) {n k : Nat} (h : k < n) : (bornI l n).getD k 0 = ((tT l (k + 1) : Nat) : Int) := by
  unfold bornI
  rw [List.getD_eq_getElem?_getD, List.getElem?_map, List.getElem?_range h]
  rfl
set_option maxHeartbeats 8000000 in
set_option maxRecDepth 100000 in
theorem oldest_none {B : Nat} {w : World} {g : Nat} {v : Value} {S : Net} (h : NetAt B w g v S) (h0 : S.mail.length = 0) :
    Calls Try.prog 22 #[.pointer (some ⟨g, 0, none⟩)] w fun e w' => e = .returned (.int .i64 0) ∧ w' = w := by
  have e0 : ((S.mail.length : Int) == 0) = true := by rw [h0]; rfl
  have HN := Aside0.mk h
  clear h h0
  go_enter Try.func22, Try.ntmps22
  go_wp2_with (first | (go_at_call 16; (with_reducible refine (waits_calls HN.out).mono ?_); rintro e w1 ⟨rfl, rfl⟩))
  go_ret
  exact ⟨rfl, rfl⟩
end Go.Proofs.Ytnggcegfieeonaa.Nx
