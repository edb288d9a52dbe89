/- What is proved: that the statement FrameCuts, as a plain function, answers true at every input. No condition. -/
import Derived.Test.YtbanbeaemmlikaaDoorScanG
import Derived.Test.YtbanbeaemmlikaaDoorCuts
namespace Go.Proofs.YtbanbeaemmlikaaDoor.Px
open Go.RowKit Go.Proofs.YtbanbeaemmlikaaDoorW.PrintWords Go.Proofs.YtbanbeaemmlikaaDoorW.PrintLast Go.Proofs.YtbanbeaemmlikaaDoorW.PrintMore
open Go.Proofs.YtbanbeaemmlikaaDoor.Crc

theorem frs_fb (l : List ByteArray) (i : Nat) (hi : i ≤ l.length) : bs (frs l i) = fb (l.take i) := by
  rw [frs_cats l i hi, cats_bs]
  rfl
theorem fb_len (l : List ByteArray) (i : Nat) (hi : i ≤ l.length) : (fb (l.take i)).length = (frs l i).size := by rw [← frs_fb l i hi, bs_len]

/-- Where a place lies: behind wh whole frames, within the next. -/
structure At (l : List ByteArray) (n wh : Nat) : Prop where
  le : wh ≤ l.length
  lo : (frs l wh).size ≤ n
  hi : n ≤ (frs l l.length).size
  up : wh < l.length → n < (frs l (wh + 1)).size

section
variable {l : List ByteArray} (hl : ∀ x ∈ l, x.size ≤ 100)
include hl

theorem sz300 : ∀ x ∈ l, x.size ≤ 300 := fun x hx => by have := hl x hx; omega
theorem sz70 : ∀ x ∈ l, x.size ≤ 70000 := fun x hx => by have := hl x hx; omega
theorem getD100 (i : Nat) : (l.getD i ByteArray.empty).size ≤ 100 := by
  rw [List.getD_eq_getElem?_getD]
  by_cases h : i < l.length
  · rw [List.getElem?_eq_getElem h]; exact hl _ (List.getElem_mem h)
  · rw [List.getElem?_eq_none (by omega)]; exact Nat.zero_le _

theorem cut_scan (K n wh : Nat) (hm : l.length ≤ 20) (h : At l n wh) (hK : 800000 ≤ K) :
    frame_Scan.f K ((frs l l.length).extract 0 n) = some (l.take wh, ((frs l wh).size : Int), if n = (frs l wh).size then 1 else 2) := by
  have hS := frs_size (sz300 hl) l.length
  have hlen := fb_len l wh h.le
  have hhi := h.hi
  have hlo := h.lo
  have hz : ((frs l l.length).extract 0 n).size = n := by rw [ByteArray.size_extract]; omega
  obtain ⟨s, es⟩ : ∃ s, s = (frs l l.length).extract 0 n := ⟨_, rfl⟩
  rw [← es] at hz ⊢
  have hb : bs s = (bs (frs l l.length)).take n := by rw [es, bs_extract, List.drop_zero, Nat.sub_zero]
  obtain ⟨R, hR⟩ : ∃ R, bs (frs l l.length) = fb (l.take wh) ++ R := by
    obtain ⟨r, hr⟩ := frs_cut l wh (l.length - wh)
    rw [show wh + (l.length - wh) = l.length by have := h.le; omega, frs_fb l wh h.le] at hr
    exact ⟨r, hr⟩
  have hb2 : bs s = fb (l.take wh) ++ R.take (n - (frs l wh).size) := by
    rw [hb, hR, List.take_append, hlen, List.take_of_length_le (by rw [hlen]; omega)]
  unfold frame_Scan.f
  rw [show (0 : Int) = ((0 : Nat) : Int) from rfl, scan_told s (by omega) s.size K 0 [] (by omega) (by omega) (by omega) (by simp only [List.length_nil]; omega)]
  obtain ⟨d', e, h1, h2⟩ := scan_frames (s := s) (l.take wh) (d := s.size) (p := 0) (acc := []) (r := R.take (n - (frs l wh).size)) (fun x hx => sz70 hl x (List.mem_of_mem_take hx)) (by omega) (Nat.zero_le _) (by rw [List.drop_zero, hb2])
  rw [Nat.zero_add, hlen] at h1 h2 e
  rw [e, List.nil_append]
  have hdrop : (bs s).drop (frs l wh).size = R.take (n - (frs l wh).size) := by rw [hb2, ← hlen, List.drop_left]
  by_cases hn : n = (frs l wh).size
  · rw [if_pos hn]
    have e2 : (frs l wh).size = s.size := by omega
    rw [scan_stop (b := ⟨#[]⟩) (n := (s.size : Int)) (st := 1) h1 h2 (by rw [e2]; exact getF_end) (by decide)]
  · rw [if_neg hn]
    have hwl : wh < l.length := by
      by_cases hc : wh < l.length
      · exact hc
      · have : wh = l.length := by have := h.le; omega
        subst this
        omega
    have hup := h.up hwl
    rw [frs_succ, ByteArray.size_append] at hup
    obtain ⟨r, hr⟩ := all_cut l hwl
    rw [hR, frs_fb l wh h.le] at hr
    have hR2 : R = bs (frameW (l.getD wh ByteArray.empty)) ++ r := List.append_cancel_left hr
    have hx : R.take (n - (frs l wh).size) = (bs (frameW (l.getD wh ByteArray.empty))).take (n - (frs l wh).size) := by
      rw [hR2, List.take_append_of_le_length (by rw [bs_len]; omega)]
    have hfl : (bs (frameW (l.getD wh ByteArray.empty))).length = (frameW (l.getD wh ByteArray.empty)).size := bs_len _
    have hg := getF_short s (l.getD wh ByteArray.empty) (frs l wh).size ((bs (frameW (l.getD wh ByteArray.empty))).take (n - (frs l wh).size)) ((bs (frameW (l.getD wh ByteArray.empty))).drop (n - (frs l wh).size))
      (by have := getD100 hl wh; omega) h2 (by rw [List.length_take, hfl]; omega) (by rw [List.length_drop, hfl]; omega) (by rw [hdrop, hx]) (List.take_append_drop _ _)
    unfold none3 at hg
    rw [scan_stop h1 h2 hg (by decide)]

theorem turn_scan (K n wh : Nat) (x : Int) (hm : l.length ≤ 20) (h : At l n wh) (hwl : wh < l.length) (hne : n ≠ (frs l wh).size) (hx0 : 0 ≤ x) (hx1 : x < 256) (hx : x ≠ bt (frs l l.length) (n : Int)) (hK : 800000 ≤ K) :
    frame_Scan.f K (turnAt (frs l l.length) n x) = some (l.take wh, ((frs l wh).size : Int), 3) := by
  have hS := frs_size (sz300 hl) l.length
  have hlen := fb_len l wh h.le
  have hlo := h.lo
  have hup := h.up hwl
  rw [frs_succ, ByteArray.size_append] at hup
  have hz := turnAt_size (frs l l.length) n x
  have hb := turnAt_bs (frs l l.length) n x
  have hb100 := getD100 hl wh
  obtain ⟨r, hr⟩ := all_cut l hwl
  rw [frs_fb l wh h.le, frameW_bs] at hr
  obtain ⟨b, eb⟩ : ∃ b, b = l.getD wh ByteArray.empty := ⟨_, rfl⟩
  rw [← eb] at hup hb100 hr
  have hv : (vb b.size).length = 1 := vb_one (by omega)
  have hfz : (frameW b).size = 1 + b.size + 4 := by rw [frameW_size, hv]
  have ht : (bs (tail4 (sumW (bs b)))).length = 4 := by rw [bs_len]; rfl
  have hbt : (bs b ++ bs (tail4 (sumW (bs b)))).length = b.size + 4 := by rw [List.length_append, ht, bs_len]
  obtain ⟨q, hq⟩ : ∃ q, n = (frs l wh).size + (1 + q) := ⟨n - (frs l wh).size - 1, by omega⟩
  have hql : q < (bs b ++ bs (tail4 (sumW (bs b)))).length := by rw [hbt]; omega
  have hnl : n < (bs (frs l l.length)).length := by rw [bs_len]; have h3 := congrArg List.length hr; rw [bs_len, List.length_append, List.length_append, List.length_append, hlen, hv, hbt] at h3; omega
  have hget : (bs (frs l l.length))[n] = (bs b ++ bs (tail4 (sumW (bs b))))[q] := by
    have : (bs (frs l l.length))[n]? = some ((bs b ++ bs (tail4 (sumW (bs b))))[q]) := by
      rw [hr, hq, ← hlen, List.getElem?_append_right (by omega), Nat.add_sub_cancel_left, List.append_assoc, List.getElem?_append_right (by rw [hv]; omega), hv, Nat.add_sub_cancel_left, List.getElem?_append_left hql, List.getElem?_eq_getElem hql]
    rw [List.getElem?_eq_getElem hnl] at this
    exact Option.some.inj this
  have hy : UInt8.ofNat x.toNat ≠ (bs b ++ bs (tail4 (sumW (bs b))))[q] := by
    intro e
    apply hx
    rw [bt_bytes _ n hnl, hget, ← e]
    exact (byte_nat hx0 hx1).symm
  have hset : bs (turnAt (frs l l.length) n x) = fb (l.take wh) ++ (vb b.size ++ ((bs b ++ bs (tail4 (sumW (bs b)))).set q (UInt8.ofNat x.toNat) ++ r)) := by
    rw [hb, hr, hq, ← hlen, List.set_append_right _ _ (by omega), Nat.add_sub_cancel_left, List.append_assoc, List.set_append_right _ _ (by rw [hv]; omega), hv, Nat.add_sub_cancel_left, List.set_append_left _ _ hql]
  obtain ⟨s, es⟩ : ∃ s, s = turnAt (frs l l.length) n x := ⟨_, rfl⟩
  rw [← es] at hz hset ⊢
  unfold frame_Scan.f
  rw [show (0 : Int) = ((0 : Nat) : Int) from rfl, scan_told s (by omega) s.size K 0 [] (by omega) (by omega) (by omega) (by simp only [List.length_nil]; omega)]
  obtain ⟨d', e, h1, h2⟩ := scan_frames (s := s) (l.take wh) (d := s.size) (p := 0) (acc := []) (fun x hx => sz70 hl x (List.mem_of_mem_take hx)) (by omega) (Nat.zero_le _) (by rw [List.drop_zero, hset])
  rw [Nat.zero_add, hlen] at h1 h2 e
  rw [e, List.nil_append]
  have hg := getF_wrong s b (frs l wh).size q (UInt8.ofNat x.toNat) r hb100 hql hy (by rw [hset, ← hlen, List.drop_left])
  unfold none3 at hg
  rw [scan_stop h1 h2 hg (by decide)]
end

def starts (l : List ByteArray) (i : Nat) : List Int := (List.range i).map fun j => ((frs l j).size : Int)
theorem starts_step (l : List ByteArray) (i : Nat) : starts l (i + 1) = starts l i ++ [((frs l i).size : Int)] := by
  unfold starts
  rw [List.range_succ, List.map_append]
  rfl
theorem starts_rd (l : List ByteArray) {i j : Nat} (h : j < i) : rd (starts l i) (j : Int) = ((frs l j).size : Int) := by
  have : (starts l i).getD j 0 = ((frs l j).size : Int) := by
    unfold starts
    rw [List.getD_eq_getElem?_getD, List.getElem?_map, List.getElem?_range h]
    rfl
  rw [← this]
  unfold rd
  rw [Int.toNat_natCast]
theorem starts_len (l : List ByteArray) (i : Nat) : (starts l i).length = i := by unfold starts; simp

/-- Does a body end at a place, or is it the beginning? -/
def edge (l : List ByteArray) (n : Nat) : Nat → Bool
  | 0 => (n : Int) == 0
  | i + 1 => edge l n i || (((frs l (i + 1)).size : Int) == (n : Int))

section
variable {l : List ByteArray} (hl : ∀ x ∈ l, x.size ≤ 100)
include hl

theorem frs_up (i d : Nat) : (frs l i).size + 5 * d ≤ (frs l (i + d)).size := by
  induction d with
  | zero => exact Nat.le_refl _
  | succ d ih => have := (frs_step (sz300 hl) (i + d)).1; rw [← Nat.add_assoc]; omega

theorem edge_iff (n wh : Nat) (h : At l n wh) (i : Nat) (hi : i ≤ l.length) : edge l n i = true ↔ n = (frs l wh).size ∧ wh ≤ i := by
  have hlo := h.lo
  induction i with
  | zero =>
    rw [edge, beq_iff_eq]
    constructor
    · intro e
      have h5 := frs_up hl 0 wh
      rw [Nat.zero_add] at h5
      omega
    · rintro ⟨e, h0⟩
      obtain rfl : wh = 0 := by omega
      rw [frs_zero] at e
      have : (⟨#[]⟩ : ByteArray).size = 0 := rfl
      omega
  | succ i ih =>
    have ih' := ih (by omega)
    rw [edge, Bool.or_eq_true, beq_iff_eq]
    constructor
    · rintro (h1 | h1)
      · obtain ⟨h1, h2⟩ := ih'.1 h1
        exact ⟨h1, by omega⟩
      · rcases Nat.lt_trichotomy wh (i + 1) with hc | hc | hc
        · have h2 := h.up (by omega)
          have h3 := frs_up hl (wh + 1) (i - wh)
          rw [show wh + 1 + (i - wh) = i + 1 by omega] at h3
          omega
        · subst hc; exact ⟨by omega, by omega⟩
        · have h3 := frs_up hl (i + 1) (wh - (i + 1))
          rw [show i + 1 + (wh - (i + 1)) = wh by omega] at h3
          omega
    · rintro ⟨h1, h2⟩
      by_cases hc : wh = i + 1
      · subst hc; exact .inr (by omega)
      · exact .inl (ih'.2 ⟨h1, by omega⟩)

variable (hm : l.length ≤ 20) (a2 : Int) (h0 : 0 ≤ a2) (h1 : a2 < 256)
include hm h0 h1

theorem rest_true (K n wh : Nat) (h : At l n wh) (hwl : wh < l.length) (hne : n ≠ (frs l wh).size) (hz : a2 ≠ 0) (hK : 800000 ≤ K) :
    FrameCutsRest.f K (frs l l.length) (n : Int) a2 (wh : Int) l (starts l l.length) true = some true := by
  have hS := frs_size (sz300 hl) l.length
  have hlo := h.lo
  have hup := h.up hwl
  have h3 := frs_up hl (wh + 1) (l.length - (wh + 1))
  rw [show wh + 1 + (l.length - (wh + 1)) = l.length by omega] at h3
  have hn : n < (frs l l.length).size := by omega
  have hn2 : n < (bs (frs l l.length)).length := by rw [bs_len]; exact hn
  obtain ⟨x, ex, x0, x1, x2⟩ := xor_byte (bs (frs l l.length))[n] a2 (by omega) h1
  rw [← bt_bytes _ n hn2] at ex x2
  have hs := turn_scan hl K n wh x hm h hwl hne x0 x1 x2 hK
  have hsl := starts_len l l.length
  have c1 : 0 ≤ (n : Int) ∧ (n : Int) < ((frs l l.length).size : Int) ∧ 0 ≤ (wh : Int) ∧ (wh : Int) < ((starts l l.length).length : Int) ∧ (wh : Int) ≤ (l.length : Int) ∧ true = true := ⟨by omega, by omega, by omega, by rw [hsl]; omega, by omega, rfl⟩
  have hsame := same_refl K (l.take wh) (by rw [List.length_take]; omega) (by rw [List.length_take]; omega)
  unfold FrameCutsRest.f
  rw [if_pos c1, ex]
  unfold FrameCutsRest.at_
  rw [if_pos ⟨x0, x1⟩, Int.toNat_natCast, Int.toNat_natCast, hs, Option.bind_some, hsame, Option.bind_some, starts_rd l hwl]
  unfold FrameCutsRest.end_
  rw [if_pos ⟨rfl, rfl, rfl⟩]

theorem j6_told (K n wh : Nat) (h : At l n wh) (hK : 800000 ≤ K) : heliographlaw05_FrameCuts.j6 (K + 1) a2 true l (frs l l.length) (starts l l.length) (n : Int) (wh : Int) false = some true := by
  have hsl := starts_len l l.length
  have hle := h.le
  have hlo := h.lo
  have hhi := h.hi
  rw [heliographlaw05_FrameCuts.j6, if_neg (by simp)]
  by_cases c1 : (n : Int) = ((frs l l.length).size : Int)
  · rw [if_pos c1]
  by_cases c2 : a2 = 0
  · rw [if_neg c1, if_pos c2]
  have hwl : wh < l.length := by
    by_cases hc : wh < l.length
    · exact hc
    · obtain rfl : wh = l.length := by omega
      omega
  have c3 : (0 : Int) ≤ (wh : Int) := by omega
  have c4 : (wh : Int) < ((starts l l.length).length : Int) := by rw [hsl]; omega
  rw [if_neg c1, if_neg c2, if_pos c3, if_pos c4, starts_rd l hwl]
  by_cases c5 : (n : Int) = ((frs l wh).size : Int)
  · rw [if_pos c5]
  · rw [if_neg c5, rest_true hl hm a2 h0 h1 K n wh h hwl (by omega) c2 hK, Option.bind_some]

theorem l2_told (n wh : Nat) (h : At l n wh) (d : Nat) : ∀ k i : Nat, i + d = l.length → 800002 + d ≤ k →
    heliographlaw05_FrameCuts.l2 k a2 true l (frs l l.length) (starts l l.length) (ends l l.length) (n : Int) (wh : Int) ((frs l wh).size : Int) (if n = (frs l wh).size then 1 else 2) true (edge l n i) (i : Int) = some true := by
  have hel := ends_len l l.length
  have hlo := h.lo
  have hle := h.le
  induction d with
  | zero =>
    intro k i hi hk
    obtain ⟨k, rfl⟩ : ∃ m, k = m + 2 := ⟨k - 2, by omega⟩
    obtain rfl : i = l.length := by omega
    have he := edge_iff hl n wh h l.length (Nat.le_refl _)
    have n1 : ¬ (l.length : Int) < ((ends l l.length).length : Int) := by rw [hel]; omega
    have n2 : decide (((frs l wh).size : Int) > (n : Int)) = false := decide_eq_false (by omega)
    rw [heliographlaw05_FrameCuts.l2, if_neg n1, if_pos rfl]
    by_cases hn : n = (frs l wh).size
    · rw [if_pos hn, he.2 ⟨hn, hle⟩, if_pos rfl, if_pos rfl, n2]
      exact j6_told hl hm a2 h0 h1 k n wh h (by omega)
    · have hf : edge l n l.length = false := by
        rw [← Bool.not_eq_true]
        exact fun e => hn (he.1 e).1
      rw [if_neg hn, hf, if_neg (by simp), if_pos rfl, n2]
      exact j6_told hl hm a2 h0 h1 k n wh h (by omega)
  | succ d ih =>
    intro k i hi hk
    obtain ⟨k, rfl⟩ : ∃ m, k = m + 1 := ⟨k - 1, by omega⟩
    have n1 : (i : Int) < ((ends l l.length).length : Int) := by rw [hel]; omega
    have n2 : (0 : Int) ≤ (i : Int) := by omega
    have ew : wrap64 ((i : Int) + 1) = ((i + 1 : Nat) : Int) := by rw [wrap_succ (by omega) (by omega)]; omega
    have hil : i < l.length := by omega
    have := ih k (i + 1) (by omega) (by omega)
    rw [edge] at this
    rw [heliographlaw05_FrameCuts.l2, if_pos n1, ew]
    by_cases he : edge l n i = true
    · rw [he, Bool.true_or] at this
      rw [he, if_pos rfl]
      exact this
    · rw [Bool.not_eq_true] at he
      rw [he, Bool.false_or] at this
      rw [he, if_neg (by simp), if_pos n2, ends_rd l hil]
      exact this

theorem j4_told (k n wh : Nat) (h : At l n wh) (hk : 800100 ≤ k) : heliographlaw05_FrameCuts.j4 (k + 1) a2 true l (frs l l.length) (starts l l.length) (ends l l.length) (n : Int) (wh : Int) = some true := by
  have hhi := h.hi
  have hle := h.le
  have n1 : (0 : Int) ≤ (n : Int) := by omega
  have n2 : (n : Int) ≤ ((frs l l.length).size : Int) := by omega
  have n3 : (0 : Int) ≤ (wh : Int) := by omega
  have n4 : (wh : Int) ≤ (l.length : Int) := by omega
  have hsame := same_refl k (l.take wh) (by rw [List.length_take]; omega) (by rw [List.length_take]; omega)
  have hl2 := l2_told hl hm a2 h0 h1 n wh h l.length k 0 (by omega) (by omega)
  rw [edge] at hl2
  rw [heliographlaw05_FrameCuts.j4, if_pos n1, if_pos n2, Int.toNat_natCast, cut_scan hl k n wh hm h (by omega), Option.bind_some]
  dsimp only
  rw [if_pos n3, if_pos n4, Int.toNat_natCast, hsame, Option.bind_some]
  exact hl2

theorem l1_told (n : Nat) (hn : n ≤ (frs l l.length).size) (d : Nat) : ∀ k wh : Nat, wh + d = l.length → 800102 + d ≤ k → (frs l wh).size ≤ n →
    heliographlaw05_FrameCuts.l1 k a2 true l (frs l l.length) (starts l l.length) (ends l l.length) (n : Int) (wh : Int) = some true := by
  have hel := ends_len l l.length
  induction d with
  | zero =>
    intro k wh hi hk hlo
    obtain ⟨k, rfl⟩ : ∃ m, k = m + 2 := ⟨k - 2, by omega⟩
    obtain rfl : wh = l.length := by omega
    have n1 : ¬ (l.length : Int) < (l.length : Int) := by omega
    rw [heliographlaw05_FrameCuts.l1, if_neg n1]
    exact j4_told hl hm a2 h0 h1 k n l.length ⟨Nat.le_refl _, hlo, hn, fun h => absurd h (Nat.lt_irrefl _)⟩ (by omega)
  | succ d ih =>
    intro k wh hi hk hlo
    obtain ⟨k, rfl⟩ : ∃ m, k = m + 2 := ⟨k - 2, by omega⟩
    have n1 : (wh : Int) < (l.length : Int) := by omega
    have n2 : (0 : Int) ≤ (wh : Int) := by omega
    have n3 : (wh : Int) < ((ends l l.length).length : Int) := by rw [hel]; omega
    have ew : wrap64 ((wh : Int) + 1) = ((wh + 1 : Nat) : Int) := by rw [wrap_succ (by omega) (by omega)]; omega
    have hwl : wh < l.length := by omega
    rw [heliographlaw05_FrameCuts.l1, if_pos n1, if_pos n2, if_pos n3, ends_rd l hwl]
    by_cases hc : ((frs l (wh + 1)).size : Int) ≤ (n : Int)
    · rw [if_pos hc, ew]
      exact ih (k + 1) (wh + 1) (by omega) (by omega) (by omega)
    · rw [if_neg hc]
      exact j4_told hl hm a2 h0 h1 k n wh ⟨by omega, hlo, hn, fun _ => by omega⟩ (by omega)

theorem j1_told (a0 : List ByteArray) (a1 : Int) (w1 : (Lit.int .i64 a1).wf = true) (i : Int) (k : Nat) (hk : 800200 ≤ k) :
    heliographlaw05_FrameCuts.j1 (k + 1) a0 a1 a2 true l (frs l l.length) (starts l l.length) (ends l l.length) i false = some true := by
  obtain ⟨k, rfl⟩ : ∃ m, k = m + 1 := ⟨k - 1, by omega⟩
  have hS := frs_size (sz300 hl) l.length
  obtain ⟨n, hn, hA⟩ := place_at a1 w1 ((frs l l.length).size + 1) (by omega)
  have ew : wrap64 (((frs l l.length).size : Int) + 1) = (((frs l l.length).size + 1 : Nat) : Int) := by rw [wrap_succ (by omega) (by omega)]; omega
  have nz : ¬ (((frs l l.length).size + 1 : Nat) : Int) = 0 := by omega
  have z0 : (frs l 0).size ≤ n := by rw [frs_zero]; exact Nat.zero_le _
  have hgo := l1_told hl hm a2 h0 h1 n (by omega) l.length k 0 (by omega) (by omega) z0
  rw [heliographlaw05_FrameCuts.j1, if_neg (by simp)]
  rcases hA with ⟨c, e⟩ | ⟨c, e⟩
  · rw [if_pos (of_decide_eq_true c), heliographlaw05_FrameCuts.j2, ew, if_neg nz, e]
    exact hgo
  · rw [if_neg (of_decide_eq_false c), heliographlaw05_FrameCuts.j2, ew, if_neg nz, e]
    exact hgo
end

theorem cuts_loop (a0 : List ByteArray) (a1 a2 : Int) (w1 : (Lit.int .i64 a1).wf = true) (h0 : 0 ≤ a2) (h1 : a2 < 256) (l : List ByteArray) (el : l = (a0.take 20).map (cut · 100)) (hl : ∀ x ∈ l, x.size ≤ 100) (d : Nat) : ∀ (k i : Nat), i + d = min 20 a0.length → 2 * d + 800300 ≤ k →
    heliographlaw05_FrameCuts.l0 k a0 a1 a2 true (l.take i) (frs l i) (starts l i) (ends l i) (i : Int) = some true := by
  have hlen : l.length = min 20 a0.length := by rw [el, List.length_map, List.length_take]
  have hm : l.length ≤ 20 := by omega
  induction d with
  | zero =>
    intro k i hi hk
    obtain ⟨k, rfl⟩ : ∃ m, k = m + 2 := ⟨k - 2, by omega⟩
    obtain rfl : i = l.length := by omega
    have hgo := j1_told hl hm a2 h0 h1 a0 a1 w1 (l.length : Int) k (by omega)
    rw [heliographlaw05_FrameCuts.l0, List.take_length]
    by_cases h : (l.length : Int) < (a0.length : Int)
    · rw [if_pos h, show decide ((l.length : Int) < 20) = false from decide_eq_false (by omega)]
      exact hgo
    · rw [if_neg h]
      exact hgo
  | succ d ih =>
    intro k i hi hk
    obtain ⟨k, rfl⟩ : ∃ m, k = m + 2 := ⟨k - 2, by omega⟩
    have n1 : (i : Int) < (a0.length : Int) := by omega
    have n2 : decide ((i : Int) < 20) = true := decide_eq_true (by omega)
    have n3 : (0 : Int) ≤ (i : Int) := by omega
    have hil : i < a0.length := by omega
    have hil2 : i < l.length := by omega
    have er : cut (rdOf ByteArray.empty a0 (i : Int)) 100 = l.getD i ByteArray.empty := by
      unfold rdOf
      rw [Int.toNat_natCast, List.getD_eq_getElem?_getD, List.getD_eq_getElem?_getD, List.getElem?_eq_getElem hil, el, List.getElem?_map, List.getElem?_take, if_pos (by omega), List.getElem?_eq_getElem hil]
      rfl
    have hgs := getD100 hl i
    have hS := frs_size (sz300 hl) i
    have hS2 := (frs_step (sz300 hl) i).2
    have hs1 : (frs l (i + 1)).size = (frs l i).size + (frameW (l.getD i ByteArray.empty)).size := by rw [frs_succ, ByteArray.size_append]
    have n4 : (starts l i).length < 17592186044416 := by rw [starts_len]; omega
    have n5 : (l.take i).length < 8796093022208 := by rw [List.length_take]; omega
    have n6 : (frs l i).size + (frameW (l.getD i ByteArray.empty)).size ≤ 9223372036854775807 := by omega
    have n7 : (ends l i).length < 17592186044416 := by rw [ends_len]; omega
    have ew : wrap64 ((i : Int) + 1) = ((i + 1 : Nat) : Int) := by rw [wrap_succ (by omega) (by omega)]; omega
    have et : l.take i ++ [l.getD i ByteArray.empty] = l.take (i + 1) := by
      rw [List.take_add_one, List.getElem?_eq_getElem hil2, List.getD_eq_getElem?_getD, List.getElem?_eq_getElem hil2]
      rfl
    rw [heliographlaw05_FrameCuts.l0, if_pos n1, n2, heliographlaw05_FrameCuts.j1, if_pos rfl, if_pos n3, if_pos n1, show (100 : Int) = ((100 : Nat) : Int) from rfl, short05, Option.bind_some, er, frame_told k _ (by omega) (by omega), Option.bind_some]
    dsimp only
    rw [if_pos n4, if_pos n5, if_pos n6, if_pos n7, et, ← frs_succ, ← starts_step, ← ends_step, ew]
    exact ih k (i + 1) (by omega) (by omega)

theorem FrameCuts_pure (a0 : List ByteArray) (a1 : Int) (w1 : (Lit.int .i64 a1).wf = true) (a2 : Int) (w2 : (Lit.int .u8 a2).wf = true) : ∃ k, heliographlaw05_FrameCuts.f k a0 a1 a2 = some true := by
  obtain ⟨K, hK⟩ : ∃ K, K = 900000 := ⟨_, rfl⟩
  refine ⟨K, ?_⟩
  have hv : 0 ≤ a2 ∧ a2 < 256 := by
    have h : IntKind.u8.min ≤ a2 ∧ a2 ≤ IntKind.u8.max := by simpa [Lit.wf] using w2
    have e1 : IntKind.u8.min = 0 := by decide
    have e2 : IntKind.u8.max = 255 := by decide
    omega
  have hl : ∀ x ∈ (a0.take 20).map (cut · 100), x.size ≤ 100 := by
    intro x hx
    obtain ⟨y, _, rfl⟩ := List.mem_map.1 hx
    exact cut_size y 100
  have hgo := cuts_loop a0 a1 a2 w1 hv.1 hv.2 _ rfl hl (min 20 a0.length) K 0 (by omega) (by omega)
  rw [frs_zero] at hgo
  unfold heliographlaw05_FrameCuts.f
  rw [awake05 _ (by omega), Option.bind_some]
  exact hgo

end Go.Proofs.YtbanbeaemmlikaaDoor.Px
