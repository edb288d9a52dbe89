/- What is proved: what frames one behind the other come to, whole and cut, for the statements FrameBack and FramePuts. No condition but what each theorem says. -/
import Derived.Test.YtbanbeaemmlikaaDoorFrameG
import Derived.Test.YtbanbeaemmlikaaDoorPx13
namespace Go.Proofs.YtbanbeaemmlikaaDoor.Px
open Go.RowKit Go.Proofs.YtbanbeaemmlikaaDoorW.PrintWords Go.Proofs.YtbanbeaemmlikaaDoorW.PrintLast Go.Proofs.YtbanbeaemmlikaaDoorW.PrintMore
open Go.Proofs.YtbanbeaemmlikaaDoor.Crc

theorem frame_parts (b : ByteArray) (hb : b.size ≤ 70000) : ∃ (ini : List UInt8) (last : UInt8), vb b.size = ini ++ [last] ∧ (∀ x ∈ ini, 128 ≤ x.toNat) ∧ last.toNat < 128 ∧ Fine ini last ∧ ini.length ≤ 2 ∧ dec (ini ++ [last]) = b.size := by
  obtain ⟨ini, last, e, h1, h2, h3⟩ := vb_shape b.size
  have hl := vb_len b.size hb
  have e2 : (vb b.size).length = ini.length + 1 := by rw [e]; simp
  refine ⟨ini, last, e, h1, h2, ⟨h3, .inl (by omega)⟩, by omega, ?_⟩
  rw [← e, dec_vb]

theorem getF_frame (s b : ByteArray) (p : Nat) (r : List UInt8) (hb : b.size ≤ 70000) (h : (bs s).drop p = bs (frameW b) ++ r) : getF s p = (b, ((p + (frameW b).size : Nat) : Int), 0) := by
  obtain ⟨ini, last, ev, h1, h2, hf, hl, hd⟩ := frame_parts b hb
  have hlow : Low ((bs s).drop p) ini last ((bs b ++ bs (tail4 (sumW (bs b)))) ++ r) := ⟨by rw [h, frameW_bs, ev]; simp, h1, h2⟩
  have ht : (bs (tail4 (sumW (bs b)))).length = 4 := by rw [bs_len]; rfl
  have e1 : (((bs b ++ bs (tail4 (sumW (bs b)))) ++ r).drop b.size) = bs (tail4 (sumW (bs b))) ++ r := by
    rw [List.append_assoc, ← bs_len b, List.drop_left]
  have e2 : (((bs b ++ bs (tail4 (sumW (bs b)))) ++ r).take b.size) = bs b := by
    rw [List.append_assoc, ← bs_len b, List.take_left]
  have e3 : (bs (tail4 (sumW (bs b))) ++ r).take 4 = bs (tail4 (sumW (bs b))) := by
    rw [← ht, List.take_left]
  have e4 : (frameW b).size = ini.length + 1 + b.size + 4 := by rw [frameW_size, ev]; simp
  have e5 : ((bs b ++ bs (tail4 (sumW (bs b)))) ++ r).length = b.size + 4 + r.length := by rw [List.length_append, List.length_append, ht, bs_len]
  rw [getF_low hlow]
  unfold getN
  rw [hd, if_neg (by rintro (h | h | h); · omega
                     · exact h hf
                     · omega), e5, if_neg (by omega), e1, e2, e3, if_pos rfl, mk_bs, e4]
  congr 2
  omega

theorem getF_part (s b : ByteArray) (r : List UInt8) (hb : b.size ≤ 70000) (hr : 1 ≤ r.length) (h : bs s ++ r = bs (frameW b)) : ∃ st : Int, getF s 0 = none3 0 st ∧ st ≠ 0 ∧ st ≠ 3 := by
  obtain ⟨ini, last, ev, h1, h2, hf, hl, hd⟩ := frame_parts b hb
  obtain ⟨q, hq⟩ : ∃ q, q = bs b ++ bs (tail4 (sumW (bs b))) := ⟨_, rfl⟩
  have ht : (bs (tail4 (sumW (bs b)))).length = 4 := by rw [bs_len]; rfl
  have hql : q.length = b.size + 4 := by rw [hq, List.length_append, ht, bs_len]
  have h' : bs s ++ r = ini ++ last :: q := by rw [h, frameW_bs, ev, hq]; simp
  have hsz := bs_len s
  by_cases hc : (bs s).length ≤ ini.length
  · have hpre : bs s = ini.take (bs s).length := by
      have := congrArg (List.take (bs s).length) h'
      rw [List.take_left, List.take_append_of_le_length hc] at this
      exact this
    have hall : ∀ x ∈ bs s, 128 ≤ x.toNat := fun x hx => by
      rw [hpre] at hx
      exact h1 x (List.mem_of_mem_take hx)
    by_cases h0 : s.size = 0
    · refine ⟨1, ?_, by decide, by decide⟩
      have := getF_end (s := s)
      rw [h0] at this
      exact this
    · refine ⟨2, ?_, by decide, by decide⟩
      rw [getF_high (by rw [List.drop_zero]; exact hall) (by omega), if_pos (by omega)]
  · have hlow : ∃ rest, bs s = ini ++ last :: rest ∧ rest.length < q.length := by
      have e := congrArg (List.take (bs s).length) h'
      have el := congrArg List.length h'
      rw [List.length_append, List.length_append, List.length_cons] at el
      obtain ⟨n, hn⟩ : ∃ n, (bs s).length = ini.length + (n + 1) := ⟨(bs s).length - ini.length - 1, by omega⟩
      rw [List.take_left, hn, List.take_length_add_append, List.take_succ_cons] at e
      refine ⟨q.take n, e, ?_⟩
      rw [List.length_take]
      omega
    obtain ⟨rest, er, hrl⟩ := hlow
    refine ⟨2, ?_, by decide, by decide⟩
    rw [getF_low (ini := ini) (last := last) (rest := rest) ⟨by rw [List.drop_zero]; exact er, h1, h2⟩]
    unfold getN
    rw [hd, if_neg (by rintro (h | h | h); · omega
                       · exact h hf
                       · omega), if_pos (by omega)]

theorem few_loop (l : List ByteArray) (d : Nat) : ∀ (k i : Nat), i + d = min 20 l.length → d + 1 ≤ k →
    heliographlaw05_few.l0 k l ((l.take i).map (cut · 300)) (i : Int) = some ((l.take 20).map (cut · 300)) := by
  induction d with
  | zero =>
    intro k i hi hk
    obtain ⟨k, rfl⟩ : ∃ m, k = m + 1 := ⟨k - 1, by omega⟩
    rw [heliographlaw05_few.l0]
    by_cases h : i = 20
    · subst h
      rw [if_neg (show ¬ ((20 : Nat) : Int) < 20 by omega)]
      simp
    · have hl : i = l.length := by omega
      rw [if_neg (show ¬ (i : Int) < (l.length : Int) by omega), List.take_of_length_le (by omega), List.take_of_length_le (by omega)]
  | succ d ih =>
    intro k i hi hk
    obtain ⟨k, rfl⟩ : ∃ m, k = m + 1 := ⟨k - 1, by omega⟩
    have n1 : (i : Int) < (l.length : Int) := by omega
    have n2 : (i : Int) < 20 := by omega
    have n3 : (0 : Int) ≤ (i : Int) := by omega
    have hil : i < l.length := by omega
    have e1 : ((l.take i).map (cut · 300)).length < 8796093022208 := by rw [List.length_map, List.length_take]; omega
    have e2 : (l.take i).map (cut · 300) ++ [cut (rdOf ByteArray.empty l (i : Int)) 300] = (l.take (i + 1)).map (cut · 300) := by
      unfold rdOf
      rw [Int.toNat_natCast, List.take_add_one, List.getElem?_eq_getElem hil, List.map_append, List.getD_eq_getElem?_getD, List.getElem?_eq_getElem hil]
      rfl
    rw [heliographlaw05_few.l0, if_pos n1, if_pos n2, if_pos n3, show (300 : Int) = ((300 : Nat) : Int) from rfl, short05, Option.bind_some, if_pos e1, e2, wrap_succ (by omega) (by omega), show ((i : Int) + 1) = ((i + 1 : Nat) : Int) by omega]
    exact ih k (i + 1) (by omega) (by omega)
theorem few_told (l : List ByteArray) (k : Nat) (hk : 21 ≤ k) : heliographlaw05_few.f k l = some ((l.take 20).map (cut · 300)) := by
  unfold heliographlaw05_few.f
  exact few_loop l (min 20 l.length) k 0 (by omega) (by omega)
theorem few_size {l : List ByteArray} : ∀ x ∈ (l.take 20).map (cut · 300), x.size ≤ 300 := by
  intro x hx
  obtain ⟨y, _, rfl⟩ := List.mem_map.1 hx
  exact cut_size y 300
theorem few_len {l : List ByteArray} : ((l.take 20).map (cut · 300)).length ≤ 20 := by rw [List.length_map, List.length_take]; omega

/-- The first frames, one behind the other. -/
def frs (l : List ByteArray) : Nat → ByteArray
  | 0 => ⟨#[]⟩
  | i + 1 => frs l i ++ frameW (l.getD i ByteArray.empty)
theorem getD_size {l : List ByteArray} (hl : ∀ x ∈ l, x.size ≤ 300) (i : Nat) : (l.getD i ByteArray.empty).size ≤ 300 := by
  rw [List.getD_eq_getElem?_getD]
  by_cases h : i < l.length
  · rw [List.getElem?_eq_getElem h]; exact hl _ (List.getElem_mem h)
  · rw [List.getElem?_eq_none (by omega)]; exact Nat.zero_le _
theorem frs_step {l : List ByteArray} (hl : ∀ x ∈ l, x.size ≤ 300) (i : Nat) : (frs l i).size + 5 ≤ (frs l (i + 1)).size ∧ (frs l (i + 1)).size ≤ (frs l i).size + 307 := by
  have h := getD_size hl i
  have hv := vb_len (l.getD i ByteArray.empty).size (by omega)
  rw [frs, ByteArray.size_append, frameW_size]
  omega
theorem frs_size {l : List ByteArray} (hl : ∀ x ∈ l, x.size ≤ 300) (i : Nat) : (frs l i).size ≤ 307 * i := by
  induction i with
  | zero => exact Nat.le_refl _
  | succ i ih => have := (frs_step hl i).2; omega
theorem frs_cut (l : List ByteArray) (i d : Nat) : ∃ r, bs (frs l (i + d)) = bs (frs l i) ++ r := by
  induction d with
  | zero => exact ⟨[], by simp⟩
  | succ d ih =>
    obtain ⟨r, hr⟩ := ih
    exact ⟨r ++ bs (frameW (l.getD (i + d) ByteArray.empty)), by rw [← Nat.add_assoc, frs, bs_cat, hr, List.append_assoc]⟩

end Go.Proofs.YtbanbeaemmlikaaDoor.Px
