/- What is proved: that the statement FrameBack, as a plain function, answers true at every input. No condition. -/
import Derived.Test.YtbanbeaemmlikaaDoorFrameH
import Derived.Test.YtbanbeaemmlikaaDoorPx14
namespace Go.Proofs.YtbanbeaemmlikaaDoor.Px
open Go.RowKit Go.Proofs.YtbanbeaemmlikaaDoorW.PrintWords Go.Proofs.YtbanbeaemmlikaaDoorW.PrintLast Go.Proofs.YtbanbeaemmlikaaDoorW.PrintMore
open Go.Proofs.YtbanbeaemmlikaaDoor.Crc

theorem next_frame (k : Nat) (s b : ByteArray) (r : List UInt8) (hs : s.size < 4611686018427387904) (hk : 70100 ≤ k) (hb : b.size ≤ 70000) (h : bs s = bs (frameW b) ++ r) :
    ∃ s', frame_Scanner_Next.f k s false = some (b, true, s', false) ∧ bs s' = r := by
  have hg := getF_frame s b 0 r hb (by rw [List.drop_zero]; exact h)
  have hl := congrArg List.length h
  rw [List.length_append, bs_len, bs_len] at hl
  have e := fget_told s 0 k hs (Nat.zero_le _) hk
  rw [show ((0 : Nat) : Int) = 0 from rfl, hg] at e
  refine ⟨s.extract (0 + (frameW b).size) s.size, ?_, ?_⟩
  · unfold frame_Scanner_Next.f frame_Scanner_Bad.f
    rw [Option.bind_some]
    dsimp only
    rw [if_neg (by simp), e, Option.bind_some]
    dsimp only
    rw [if_pos rfl, if_pos (by omega), if_pos (by omega), Int.toNat_natCast]
  · rw [bs_rest, h, Nat.zero_add, ← bs_len (frameW b), List.drop_left]
theorem next_part (k : Nat) (s : ByteArray) (hs : s.size < 4611686018427387904) (hk : 70100 ≤ k) (h : ∃ st : Int, getF s 0 = none3 0 st ∧ st ≠ 0 ∧ st ≠ 3) :
    frame_Scanner_Next.f k s false = some (⟨#[]⟩, false, s, false) := by
  obtain ⟨st, hg, h0, h3⟩ := h
  have e := fget_told s 0 k hs (Nat.zero_le _) hk
  rw [show ((0 : Nat) : Int) = 0 from rfl, hg] at e
  unfold frame_Scanner_Next.f frame_Scanner_Bad.f
  rw [Option.bind_some]
  dsimp only
  rw [if_neg (by simp), e, Option.bind_some]
  unfold none3
  dsimp only
  rw [if_neg h0, if_neg h3]

def ends (l : List ByteArray) (i : Nat) : List Int := (List.range i).map fun j => ((frs l (j + 1)).size : Int)
theorem ends_step (l : List ByteArray) (i : Nat) : ends l (i + 1) = ends l i ++ [((frs l i).size : Int) + ((frameW (l.getD i ByteArray.empty)).size : Int)] := by
  unfold ends
  rw [List.range_succ, List.map_append]
  simp only [List.map_cons, List.map_nil]
  rw [frs, ByteArray.size_append]
  simp
theorem ends_rd (l : List ByteArray) {i j : Nat} (h : j < i) : rd (ends l i) (j : Int) = ((frs l (j + 1)).size : Int) := by
  have : (ends l i).getD j 0 = ((frs l (j + 1)).size : Int) := by
    unfold ends
    rw [List.getD_eq_getElem?_getD, List.getElem?_map, List.getElem?_range h]
    rfl
  rw [← this]
  unfold rd
  rw [Int.toNat_natCast]
theorem ends_len (l : List ByteArray) (i : Nat) : (ends l i).length = i := by unfold ends; simp

theorem and31 (x : Int) : ∃ n : Nat, n ≤ 31 ∧ Go.bits .and .i64 x 31 = (n : Int) := by
  have h : Go.bits .and .i64 x 31 = IntKind.i64.wrap ((BitVec.ofInt 64 x &&& BitVec.ofInt 64 31).toNat : Int) := rfl
  have h3 : (BitVec.ofInt 64 x &&& BitVec.ofInt 64 31).toNat ≤ 31 := by
    rw [BitVec.toNat_and]
    exact Nat.and_le_right
  refine ⟨(BitVec.ofInt 64 x &&& BitVec.ofInt 64 31).toNat, h3, ?_⟩
  rw [h, IntKind.wrap_i64]
  omega

theorem frs_succ (l : List ByteArray) (i : Nat) : frs l (i + 1) = frs l i ++ frameW (l.getD i ByteArray.empty) := by rw [frs]
theorem frs_zero (l : List ByteArray) : frs l 0 = ⟨#[]⟩ := by rw [frs]
attribute [local irreducible] frs frameW

section
variable (t : List Int) (l : List ByteArray)

/-- The scanner holds what is fed and not yet taken. -/
structure Held (i g : Nat) (b : ByteArray) : Prop where
  le : g ≤ l.length
  lo : (frs l g).size ≤ i
  hi : i ≤ (frs l l.length).size
  rest : bs b = ((bs (frs l l.length)).take i).drop (frs l g).size

theorem all_cut {g : Nat} (hg : g < l.length) : ∃ r, bs (frs l l.length) = bs (frs l g) ++ (bs (frameW (l.getD g ByteArray.empty)) ++ r) := by
  obtain ⟨r, hr⟩ := frs_cut l (g + 1) (l.length - (g + 1))
  rw [show g + 1 + (l.length - (g + 1)) = l.length by omega, frs_succ, bs_cat, List.append_assoc] at hr
  exact ⟨r, hr⟩

variable (hl : ∀ x ∈ l, x.size ≤ 300) (hm : l.length ≤ 20)
theorem held_len {i g : Nat} {b : ByteArray} (h : Held l i g b) : b.size = i - (frs l g).size := by
  have := h.hi
  rw [← bs_len b, h.rest, List.length_drop, List.length_take, bs_len]
  omega

include hl hm
theorem held_take {i g k : Nat} {b : ByteArray} (h : Held l i g b) (hg : g < l.length) (he : (frs l (g + 1)).size ≤ i) (hk : 70100 ≤ k) :
    ∃ b', frame_Scanner_Next.f k b false = some (l.getD g ByteArray.empty, true, b', false) ∧ Held l i (g + 1) b' := by
  obtain ⟨r, hr⟩ := all_cut l hg
  have hz := held_len l h
  have hS := frs_size hl l.length
  have hi := h.hi
  have hgs := getD_size hl g
  have hs1 : (frs l (g + 1)).size = (frs l g).size + (frameW (l.getD g ByteArray.empty)).size := by rw [frs_succ, ByteArray.size_append]
  have e0 : bs b = (bs (frameW (l.getD g ByteArray.empty)) ++ r).take (i - (frs l g).size) := by
    rw [h.rest, hr, List.drop_take, ← bs_len (frs l g), List.drop_left]
  have e1 : bs b = bs (frameW (l.getD g ByteArray.empty)) ++ r.take (i - (frs l g).size - (frameW (l.getD g ByteArray.empty)).size) := by
    rw [e0, List.take_append, List.take_of_length_le (by rw [bs_len]; omega), bs_len]
  obtain ⟨b', hn, hb'⟩ := next_frame k b _ _ (by omega) hk (by omega) e1
  refine ⟨b', hn, hg, he, hi, ?_⟩
  rw [hb', hs1, ← List.drop_drop, ← h.rest, e1, ← bs_len (frameW _), List.drop_left]

theorem held_part {i g k : Nat} {b : ByteArray} (h : Held l i g b) (he : g < l.length → i < (frs l (g + 1)).size) (hk : 70100 ≤ k) :
    frame_Scanner_Next.f k b false = some (⟨#[]⟩, false, b, false) := by
  have hz := held_len l h
  have hS := frs_size hl l.length
  have hi := h.hi
  have hlo := h.lo
  refine next_part k b (by omega) hk ?_
  by_cases hg : g < l.length
  · obtain ⟨r, hr⟩ := all_cut l hg
    have hgs := getD_size hl g
    have hs1 : (frs l (g + 1)).size = (frs l g).size + (frameW (l.getD g ByteArray.empty)).size := by rw [frs_succ, ByteArray.size_append]
    have := he hg
    have e0 : bs b = (bs (frameW (l.getD g ByteArray.empty)) ++ r).take (i - (frs l g).size) := by
      rw [h.rest, hr, List.drop_take, ← bs_len (frs l g), List.drop_left]
    have e1 : bs b = (bs (frameW (l.getD g ByteArray.empty))).take (i - (frs l g).size) := by
      rw [e0, List.take_append_of_le_length (by rw [bs_len]; omega)]
    refine getF_part b (l.getD g ByteArray.empty) ((bs (frameW (l.getD g ByteArray.empty))).drop (i - (frs l g).size)) (by omega) ?_ ?_
    · rw [List.length_drop, bs_len]; omega
    · rw [e1, List.take_append_drop]
  · have hgm : g = l.length := by have := h.le; omega
    subst hgm
    have hb0 : b.size = 0 := by omega
    refine ⟨1, ?_, by decide, by decide⟩
    have := getF_end (s := b)
    rw [hb0] at this
    exact this

/-- Where a piece's takes are done: the rest of the law. -/
def GoodB (k i g : Nat) (c : Nat) (b : ByteArray) : Prop :=
  heliographlaw05_FrameBack.l1 k t true l (frs l l.length) (ends l l.length) (i : Int) (g : Int) (c : Int) b false = some true

theorem back_takes (i c K1 : Nat) (hK : 70100 ≤ K1) (hc : c < 100000)
    (hgo : ∀ k g b, K1 ≤ k → Held l i g b → (g < l.length → i < (frs l (g + 1)).size) → GoodB t l k i g (c + 1) b)
    (d : Nat) : ∀ (k g : Nat) (b : ByteArray), g + d = l.length → K1 + 4 * d + 2 ≤ k → Held l i g b →
    heliographlaw05_FrameBack.l2 k t true l (frs l l.length) (ends l l.length) (i : Int) (g : Int) (c : Int) b false = some true := by
  have ew : wrap64 ((c : Int) + 1) = ((c + 1 : Nat) : Int) := by rw [wrap_succ (by omega) (by omega)]; omega
  have hend : ∀ (d k g : Nat) (b : ByteArray), g + d = l.length → K1 + 4 * d + 1 ≤ k → Held l i g b → (g < l.length → i < (frs l (g + 1)).size) →
      heliographlaw05_FrameBack.j4 k t true l (frs l l.length) (ends l l.length) (i : Int) (g : Int) (c : Int) false b false = some true := by
    intro d k g b hg hk hh he
    obtain ⟨k, rfl⟩ : ∃ m, k = m + 1 := ⟨k - 1, by omega⟩
    rw [heliographlaw05_FrameBack.j4, if_neg (by simp), held_part l hl hm hh he (by omega), Option.bind_some]
    dsimp only
    rw [if_neg (by simp), ew]
    exact hgo k g b (by omega) hh he
  induction d with
  | zero =>
    intro k g b hg hk hh
    obtain ⟨k, rfl⟩ : ∃ m, k = m + 1 := ⟨k - 1, by omega⟩
    rw [heliographlaw05_FrameBack.l2, if_neg (by omega)]
    exact hend 0 k g b hg (by omega) hh (fun h => by omega)
  | succ d ih =>
    intro k g b hg hk hh
    obtain ⟨k, rfl⟩ : ∃ m, k = m + 1 := ⟨k - 1, by omega⟩
    have n1 : (g : Int) < (l.length : Int) := by omega
    have n2 : (0 : Int) ≤ (g : Int) := by omega
    have n3 : (g : Int) < ((ends l l.length).length : Int) := by rw [ends_len]; omega
    have hgl : g < l.length := by omega
    rw [heliographlaw05_FrameBack.l2, if_pos n1, if_pos n2, if_pos n3, ends_rd l hgl]
    by_cases he : (frs l (g + 1)).size ≤ i
    · obtain ⟨k, rfl⟩ : ∃ m, k = m + 1 := ⟨k - 1, by omega⟩
      obtain ⟨b', hn, hh'⟩ := held_take l hl hm hh hgl he (k := k) (by omega)
      have er : rdOf ByteArray.empty l (g : Int) = l.getD g ByteArray.empty := by unfold rdOf; rw [Int.toNat_natCast]
      have eg : wrap64 ((g : Int) + 1) = ((g + 1 : Nat) : Int) := by rw [wrap_succ (by omega) (by omega)]; omega
      rw [decide_eq_true (by omega), heliographlaw05_FrameBack.j4, if_pos rfl, hn, Option.bind_some]
      dsimp only
      rw [if_pos rfl, if_pos n2, if_pos n1, er, if_pos rfl, eg]
      exact ih k (g + 1) b' (by omega) (by omega) hh'
    · rw [decide_eq_false (by omega)]
      exact hend (d + 1) k g b hg (by omega) hh (fun _ => by omega)

omit hl hm in
theorem feed_told (S b : ByteArray) (i n : Nat) (hb : b.size < 4611686018427387904) (hS : S.size < 4611686018427387904) : frame_Scanner_Feed.f b false (S.extract i n) = some (true, b ++ S.extract i n, false) := by
  have h9 : b.size + (S.extract i n).size ≤ 9223372036854775807 := by rw [ByteArray.size_extract]; omega
  have h0 : ¬ (false = true) := by simp
  unfold frame_Scanner_Feed.f frame_Scanner_Bad.f
  rw [Option.bind_some]
  dsimp only
  rw [if_neg h0, if_pos h9]
omit hl hm in
theorem held_feed {i g n : Nat} {b : ByteArray} (hh : Held l i g b) (h2 : i + n ≤ (frs l l.length).size) : Held l (i + n) g (b ++ (frs l l.length).extract i (i + n)) := by
  have hlo := hh.lo
  have hl1 : (frs l g).size ≤ ((bs (frs l l.length)).take i).length := by rw [List.length_take, bs_len]; omega
  refine ⟨hh.le, by omega, h2, ?_⟩
  have e : (bs (frs l l.length)).take (i + n) = (bs (frs l l.length)).take i ++ ((bs (frs l l.length)).drop i).take n := List.take_add ..
  rw [bs_cat, bs_extract, hh.rest, e, List.drop_append_of_le_length hl1, Nat.add_sub_cancel_left]

theorem back_feed (C k i g c n : Nat) (b : ByteArray) (hC : 70100 ≤ C) (hc : c < 100000) (hk : C + 83 ≤ k) (hh : Held l i g b) (hb : b.size < 4611686018427387904) (hS : (frs l l.length).size < 4611686018427387904) (h2 : i + n ≤ (frs l l.length).size)
    (go : ∀ (k' g' : Nat) (b' : ByteArray), C ≤ k' → Held l (i + n) g' b' → (g' < l.length → i + n < (frs l (g' + 1)).size) → GoodB t l k' (i + n) g' (c + 1) b') :
    heliographlaw05_FrameBack.j2 k t true l (frs l l.length) (ends l l.length) (i : Int) (g : Int) (c : Int) (n : Int) b false = some true := by
  obtain ⟨k, rfl⟩ : ∃ m, k = m + 1 := ⟨k - 1, by omega⟩
  have ew : wrap64 ((i : Int) + (n : Int)) = ((i + n : Nat) : Int) := by rw [wrap_id (by omega) (by omega)]; omega
  have hf := feed_told (frs l l.length) b i (i + n) hb hS
  have m1 : (0 : Int) ≤ (i : Int) := by omega
  have m2 : (i : Int) ≤ ((i + n : Nat) : Int) := by omega
  have m3 : ((i + n : Nat) : Int) ≤ ((frs l l.length).size : Int) := by omega
  have m4 := hh.le
  have m5 : g + (l.length - g) = l.length := by omega
  have m6 : C + 4 * (l.length - g) + 2 ≤ k := by omega
  rw [heliographlaw05_FrameBack.j2, ew, if_pos m1, if_pos m2, if_pos m3, Int.toNat_natCast, Int.toNat_natCast, hf, Option.bind_some]
  exact back_takes t l hl hm (i + n) c C hC hc go (l.length - g) k g _ m5 m6 (held_feed l hh h2)

omit hl hm in
theorem back_end (k g c : Nat) (b : ByteArray) (hh : Held l (frs l l.length).size g b) (he : g < l.length → (frs l l.length).size < (frs l (g + 1)).size) : GoodB t l (k + 1) (frs l l.length).size g c b := by
  have hz := held_len l hh
  have hg : g = l.length := by
    have h1 := hh.le
    by_cases h : g < l.length
    · have h2 := he h
      obtain ⟨r, hr⟩ := frs_cut l (g + 1) (l.length - (g + 1))
      have h3 := congrArg List.length hr
      rw [show g + 1 + (l.length - (g + 1)) = l.length by omega, List.length_append, bs_len, bs_len] at h3
      omega
    · omega
  subst hg
  have hb0 : b.size = 0 := by rw [hz]; omega
  have n1 : ¬ ((frs l l.length).size : Int) < ((frs l l.length).size : Int) := by omega
  have n2 : ((b.size : Nat) : Int) = 0 := by omega
  unfold GoodB
  rw [heliographlaw05_FrameBack.l1, if_neg n1, if_pos rfl, if_pos rfl]
  unfold frame_Scanner_Left.f frame_Scanner_Bad.f
  rw [Option.bind_some]
  dsimp only
  rw [if_pos n2, Option.bind_some]
  rfl

omit hl hm in
theorem back_step (k i g c q : Nat) (b : ByteArray) (h1 : 1 ≤ q) (hq : (frs l l.length).size = i + q) (hS : (frs l l.length).size < 4611686018427387904)
    (feed : ∀ n : Nat, 1 ≤ n → n ≤ q → heliographlaw05_FrameBack.j2 k t true l (frs l l.length) (ends l l.length) (i : Int) (g : Int) (c : Int) (n : Int) b false = some true) : GoodB t l (k + 1) i g c b := by
  have n1 : (i : Int) < ((frs l l.length).size : Int) := by omega
  have h0 : (0 : Int) ≤ (c : Int) := by omega
  have er : wrap64 (((frs l l.length).size : Int) - (i : Int)) = (q : Int) := by rw [wrap_id (by omega) (by omega)]; omega
  have hrest := feed q h1 (Nat.le_refl _)
  unfold GoodB
  rw [heliographlaw05_FrameBack.l1, if_pos n1, er]
  by_cases hct : (c : Int) < (t.length : Int)
  · obtain ⟨n, hn, en⟩ := and31 (rd t (c : Int))
    have en2 : wrap64 ((n : Int) + 1) = ((n + 1 : Nat) : Int) := by rw [wrap_succ (by omega) (by omega)]; omega
    rw [if_pos hct, if_pos h0, en, en2]
    by_cases hlt : ((n + 1 : Nat) : Int) < (q : Int)
    · rw [if_pos hlt]
      exact feed (n + 1) (by omega) (by omega)
    · rw [if_neg hlt]
      exact hrest
  · rw [if_neg hct]
    exact hrest

set_option maxHeartbeats 1000000 in
theorem back_loop (hS : (frs l l.length).size < 4611686018427387904) (d : Nat) : ∀ (k i g c : Nat) (b : ByteArray), (frs l l.length).size ≤ i + d → c + d ≤ 90000 → 70300 + 100 * d ≤ k → Held l i g b → (g < l.length → i < (frs l (g + 1)).size) → GoodB t l k i g c b := by
  induction d with
  | zero =>
    intro k i g c b hd hc hk hh he
    obtain ⟨k, rfl⟩ : ∃ m, k = m + 1 := ⟨k - 1, by omega⟩
    have hi := hh.hi
    obtain rfl : i = (frs l l.length).size := by omega
    exact back_end t l k g c b hh he
  | succ d ih =>
    intro k i g c b hd hc hk hh he
    by_cases hlast : (frs l l.length).size ≤ i + d
    · exact ih k i g c b hlast (by omega) (by omega) hh he
    have hb : b.size < 4611686018427387904 := by rw [held_len l hh]; omega
    clear he
    obtain ⟨k, rfl⟩ : ∃ m, k = m + 1 := ⟨k - 1, by omega⟩
    obtain ⟨q, hq⟩ : ∃ q, (frs l l.length).size = i + q := ⟨(frs l l.length).size - i, by omega⟩
    have feed : ∀ n : Nat, 1 ≤ n → n ≤ q → heliographlaw05_FrameBack.j2 k t true l (frs l l.length) (ends l l.length) (i : Int) (g : Int) (c : Int) (n : Int) b false = some true := fun n h1 h2 =>
      back_feed t l hl hm (70300 + 100 * d) k i g c n b (by omega) (by omega) (by omega) hh hb hS (by omega) (fun k' g' b' h3 h4 h5 => ih k' (i + n) g' (c + 1) b' (by omega) (by omega) h3 h4 h5)
    exact back_step t l k i g c q b (by omega) hq hS feed

theorem back_puts (d : Nat) (K1 : Nat) (hK : 70100 ≤ K1) (hgo : ∀ k, K1 ≤ k → (frame_New.f.bind fun y => heliographlaw05_FrameBack.l1 k t true l (frs l l.length) (ends l l.length) 0 0 0 y.1 y.2) = some true) : ∀ (k i : Nat), i + d = l.length → K1 + d + 1 ≤ k →
    heliographlaw05_FrameBack.l0 k t true l (frs l i) (ends l i) (i : Int) = some true := by
  induction d with
  | zero =>
    intro k i hi hk
    obtain ⟨k, rfl⟩ : ∃ m, k = m + 1 := ⟨k - 1, by omega⟩
    obtain rfl : i = l.length := by omega
    rw [heliographlaw05_FrameBack.l0, if_neg (by omega)]
    exact hgo k (by omega)
  | succ d ih =>
    intro k i hi hk
    obtain ⟨k, rfl⟩ : ∃ m, k = m + 1 := ⟨k - 1, by omega⟩
    have n1 : (i : Int) < (l.length : Int) := by omega
    have n2 : (0 : Int) ≤ (i : Int) := by omega
    have er : rdOf ByteArray.empty l (i : Int) = l.getD i ByteArray.empty := by unfold rdOf; rw [Int.toNat_natCast]
    have hgs := getD_size hl i
    have h1 := frs_size hl i
    have h2 := (frs_step hl i).2
    have hs1 : (frs l (i + 1)).size = (frs l i).size + (frameW (l.getD i ByteArray.empty)).size := by rw [frs_succ, ByteArray.size_append]
    have n3 : (frs l i).size + (frameW (l.getD i ByteArray.empty)).size ≤ 9223372036854775807 := by omega
    have n4 : (ends l i).length < 17592186044416 := by rw [ends_len]; omega
    have ew : wrap64 ((i : Int) + 1) = ((i + 1 : Nat) : Int) := by rw [wrap_succ (by omega) (by omega)]; omega
    rw [heliographlaw05_FrameBack.l0, if_pos n1, if_pos n2, er, frame_told k _ (by omega) (by omega), Option.bind_some]
    dsimp only
    rw [if_pos rfl, if_pos n3, if_pos n4, ew, ← ends_step, ← frs_succ]
    exact ih k (i + 1) (by omega) (by omega)

theorem back_all (K : Nat) (hK : 800000 ≤ K) : heliographlaw05_FrameBack.l0 K t true l ⟨#[]⟩ [] 0 = some true := by
  have hS := frs_size hl l.length
  obtain ⟨D, hD⟩ : ∃ D, D = 6200 := ⟨_, rfl⟩
  have hh : Held l 0 0 ⟨#[]⟩ := ⟨Nat.zero_le _, by rw [frs_zero]; exact Nat.le_refl _, Nat.zero_le _, by rw [frs_zero]; rfl⟩
  have h1 := (frs_step hl 0).1
  have h2 : 0 < l.length → 0 < (frs l (0 + 1)).size := fun _ => by omega
  have go : ∀ k, 70300 + 100 * D ≤ k → (frame_New.f.bind fun y => heliographlaw05_FrameBack.l1 k t true l (frs l l.length) (ends l l.length) 0 0 0 y.1 y.2) = some true := by
    intro k hk
    unfold frame_New.f
    rw [Option.bind_some]
    exact back_loop t l hl hm (by omega) D k 0 0 0 ⟨#[]⟩ (by omega) (by omega) hk hh h2
  have := back_puts t l hl hm l.length (70300 + 100 * D) (by omega) go K 0 (by omega) (by omega)
  rw [frs_zero] at this
  exact this
end

theorem FrameBack_pure (a0 : List ByteArray) (a1 : List Int) : ∃ k, heliographlaw05_FrameBack.f k a0 a1 = some true := by
  obtain ⟨K, hK⟩ : ∃ K, K = 800000 := ⟨_, rfl⟩
  refine ⟨K, ?_⟩
  unfold heliographlaw05_FrameBack.f
  rw [awake05 _ (by omega), Option.bind_some, few_told _ _ (by omega), Option.bind_some]
  exact back_all a1 _ few_size few_len K (by omega)

end Go.Proofs.YtbanbeaemmlikaaDoor.Px
