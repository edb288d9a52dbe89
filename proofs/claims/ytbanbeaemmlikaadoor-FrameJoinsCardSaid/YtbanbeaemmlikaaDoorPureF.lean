/- What is proved: that the statement FramePuts, as a plain function, answers true at every input. No condition. -/
import Derived.Test.YtbanbeaemmlikaaDoorFrameH
import Derived.Test.YtbanbeaemmlikaaDoorPx15
namespace Go.Proofs.YtbanbeaemmlikaaDoor.Px
open Go.RowKit Go.Proofs.YtbanbeaemmlikaaDoorW.PrintWords Go.Proofs.YtbanbeaemmlikaaDoorW.PrintLast Go.Proofs.YtbanbeaemmlikaaDoorW.PrintMore
open Go.Proofs.YtbanbeaemmlikaaDoor.Crc

/-- All the frames, one behind the other. -/
def cats (l : List ByteArray) (acc : ByteArray) : ByteArray := l.foldl (fun a b => a ++ frameW b) acc
theorem all_told (k : Nat) (hk : 70100 ≤ k) (l : List ByteArray) : ∀ acc : ByteArray, (∀ x ∈ l, x.size ≤ 70000) → acc.size + 70007 * l.length ≤ 140737488355328 → frame_All.go k l acc = some (cats l acc, 0) := by
  induction l with
  | nil => intro acc _ _; rfl
  | cons b l ih =>
    intro acc hl hs
    have hb := hl b (List.mem_cons_self ..)
    have hv := vb_len b.size hb
    have hz := frameW_size b
    rw [List.length_cons] at hs
    rw [frame_All.go, frame_told k b hb hk, Option.bind_some]
    dsimp only
    rw [if_pos rfl, if_pos (by omega), ih _ (fun x hx => hl x (List.mem_cons_of_mem _ hx)) (by rw [ByteArray.size_append]; omega)]
    rfl
theorem all_great (k : Nat) (hk : 70100 ≤ k) (g : ByteArray) (hg : 70000 < g.size) (l : List ByteArray) : ∀ acc : ByteArray, (∀ x ∈ l, x.size ≤ 70000) → acc.size + 70007 * l.length ≤ 140737488355328 → frame_All.go k (l ++ [g]) acc = some (⟨#[]⟩, 11) := by
  induction l with
  | nil =>
    intro acc _ _
    rw [List.nil_append, frame_All.go, frame_great k g hg, Option.bind_some]
    dsimp only
    rw [if_neg (by decide)]
  | cons b l ih =>
    intro acc hl hs
    have hb := hl b (List.mem_cons_self ..)
    have hv := vb_len b.size hb
    have hz := frameW_size b
    rw [List.length_cons] at hs
    rw [List.cons_append, frame_All.go, frame_told k b hb hk, Option.bind_some]
    dsimp only
    rw [if_pos rfl, if_pos (by omega)]
    exact ih _ (fun x hx => hl x (List.mem_cons_of_mem _ hx)) (by rw [ByteArray.size_append]; omega)
theorem frs_cats (l : List ByteArray) (i : Nat) (hi : i ≤ l.length) : frs l i = cats (l.take i) ⟨#[]⟩ := by
  induction i with
  | zero => rfl
  | succ i ih =>
    have hil : i < l.length := by omega
    rw [frs, ih (by omega), List.take_add_one, List.getElem?_eq_getElem hil, List.getD_eq_getElem?_getD, List.getElem?_eq_getElem hil]
    unfold cats
    rw [List.foldl_append]
    rfl

theorem nums_size (n : Nat) : (strOfNums (List.replicate n 0)).size = n := by
  rw [← bs_len]
  simp [strOfNums, bs]

theorem e_nil0 : (⟨#[]⟩ : ByteArray).toList = ([] : List UInt8) := by rw [ByteArray.toList_eq]

section
variable (a1 : Int) (l : List ByteArray) (hl : ∀ x ∈ l, x.size ≤ 300) (hm : l.length ≤ 20)
include hl hm

/-- What the rest of the law comes to, at a long text of n bytes more. -/
theorem puts_rest (k n : Nat) (hk : 70100 ≤ k) (hn : n ≤ 100) :
    ∃ (b g : ByteArray) (e : Int), frame_Put.f k (strOfNums (List.replicate (69950 + n) 0)) = some (b, e) ∧ frame_All.f k l = some (frs l l.length, 0) ∧ frame_All.f k (l ++ [strOfNums (List.replicate (69950 + n) 0)]) = some (g, e) ∧
      (e == 0) = decide ((n : Int) ≤ 50) ∧ (e = 0 ∨ (¬ e = 0 ∧ (g.toList == ([] : List UInt8)) = true)) := by
  have hz := nums_size (69950 + n)
  obtain ⟨G, hG⟩ : ∃ G, G = strOfNums (List.replicate (69950 + n) 0) := ⟨_, rfl⟩
  rw [← hG] at hz ⊢
  have hl2 : ∀ x ∈ l, x.size ≤ 70000 := fun x hx => by have := hl x hx; omega
  have h0 : (⟨#[]⟩ : ByteArray).size = 0 := rfl
  have hall : frame_All.f k l = some (frs l l.length, 0) := by
    unfold frame_All.f
    rw [if_pos (by omega), all_told k hk l _ hl2 (by rw [show (⟨#[]⟩ : ByteArray).size = 0 from rfl]; omega), frs_cats l _ (Nat.le_refl _), List.take_length]
  by_cases h : n ≤ 50
  · refine ⟨_, cats (l ++ [G]) ⟨#[]⟩, 0, frame_told k _ (by omega) hk, hall, ?_, ?_, .inl rfl⟩
    · have hlen : (l ++ [G]).length = l.length + 1 := by rw [List.length_append, List.length_singleton]
      have h1 : (l ++ [G]).length < 9223372036854775807 := by omega
      have h2 : (⟨#[]⟩ : ByteArray).size + 70007 * (l ++ [G]).length ≤ 140737488355328 := by omega
      have h3 : ∀ x ∈ l ++ [G], x.size ≤ 70000 := fun x hx => by
        rcases List.mem_append.1 hx with hx | hx
        · exact hl2 x hx
        · rw [List.mem_singleton.1 hx]; omega
      unfold frame_All.f
      rw [if_pos h1, all_told k hk _ _ h3 h2]
    · rw [decide_eq_true (by omega)]; rfl
  · refine ⟨_, ⟨#[]⟩, 11, frame_great k _ (by omega), hall, ?_, ?_, .inr ⟨by decide, by rw [e_nil0]; rfl⟩⟩
    · have hlen : (l ++ [G]).length = l.length + 1 := by rw [List.length_append, List.length_singleton]
      have h1 : (l ++ [G]).length < 9223372036854775807 := by omega
      have h2 : (⟨#[]⟩ : ByteArray).size + 70007 * l.length ≤ 140737488355328 := by omega
      unfold frame_All.f
      rw [if_pos h1, all_great k hk G (by omega) l _ hl2 h2]
    · rw [decide_eq_false (by omega)]; rfl

theorem puts_end (k : Nat) (hk : 70100 ≤ k) : heliographlaw05_FramePuts.l0 (k + 1) a1 true l (frs l l.length) (l.length : Int) = some true := by
  have n1 : ¬ (l.length : Int) < (l.length : Int) := by omega
  have n2 : l.length < 8796093022208 := by omega
  have ht : -100 ≤ Int.tmod a1 101 ∧ Int.tmod a1 101 ≤ 100 := by
    have h1 := Int.tmod_lt_of_pos a1 (show (0 : Int) < 101 by decide)
    have h2 := Int.lt_tmod_of_pos a1 (show (0 : Int) < 101 by decide)
    omega
  rw [heliographlaw05_FramePuts.l0, if_neg n1]
  obtain ⟨x, hx⟩ : ∃ x, x = Int.tmod a1 101 := ⟨_, rfl⟩
  rw [← hx] at ht ⊢
  by_cases hneg : x < 0
  · obtain ⟨n, hn⟩ : ∃ n : Nat, -x = (n : Int) := ⟨(-x).toNat, by omega⟩
    have w1 : wrap64 (-x) = (n : Int) := by rw [wrap_id (by omega) (by omega)]; exact hn
    have w2 : wrap64 (69950 + (n : Int)) = ((69950 + n : Nat) : Int) := by rw [wrap_id (by omega) (by omega)]; omega
    obtain ⟨b, g, e, h1, h2, h3, h4, h5⟩ := puts_rest l hl hm k n hk (by omega)
    rw [if_pos hneg, w1, w2, if_pos (by omega), Int.toNat_natCast, if_pos (by omega), Option.bind_some, h1, Option.bind_some, h2, Option.bind_some, if_pos n2, h3, Option.bind_some]
    dsimp only
    rw [if_pos rfl, if_pos rfl, if_pos rfl, h4, if_pos (by simp), if_pos rfl]
    rcases h5 with h5 | ⟨h5, h6⟩
    · rw [if_pos h5]
    · rw [if_neg h5, h6]
  · obtain ⟨n, hn⟩ : ∃ n : Nat, x = (n : Int) := ⟨x.toNat, by omega⟩
    have w2 : wrap64 (69950 + (n : Int)) = ((69950 + n : Nat) : Int) := by rw [wrap_id (by omega) (by omega)]; omega
    obtain ⟨b, g, e, h1, h2, h3, h4, h5⟩ := puts_rest l hl hm k n hk (by omega)
    rw [if_neg hneg, hn, w2, if_pos (by omega), Int.toNat_natCast, if_pos (by omega), Option.bind_some, h1, Option.bind_some, h2, Option.bind_some, if_pos n2, h3, Option.bind_some]
    dsimp only
    rw [if_pos rfl, if_pos rfl, if_pos rfl, h4, if_pos (by simp), if_pos rfl]
    rcases h5 with h5 | ⟨h5, h6⟩
    · rw [if_pos h5]
    · rw [if_neg h5, h6]

theorem puts_loop (d : Nat) : ∀ (k i : Nat), i + d = l.length → 700100 + d + 1 ≤ k → heliographlaw05_FramePuts.l0 k a1 true l (frs l i) (i : Int) = some true := by
  induction d with
  | zero =>
    intro k i hi hk
    obtain ⟨k, rfl⟩ : ∃ m, k = m + 1 := ⟨k - 1, by omega⟩
    obtain rfl : i = l.length := by omega
    exact puts_end a1 l hl hm k (by omega)
  | succ d ih =>
    intro k i hi hk
    obtain ⟨k, rfl⟩ : ∃ m, k = m + 1 := ⟨k - 1, by omega⟩
    have n1 : (i : Int) < (l.length : Int) := by omega
    have n2 : (0 : Int) ≤ (i : Int) := by omega
    have er : rdOf ByteArray.empty l (i : Int) = l.getD i ByteArray.empty := by unfold rdOf; rw [Int.toNat_natCast]
    have hgs := getD_size hl i
    have h1 := frs_size hl i
    have h2 := (frs_step hl i).2
    have hs1 : (frs l (i + 1)).size = (frs l i).size + (frameW (l.getD i ByteArray.empty)).size := by rw [frs, ByteArray.size_append]
    have n3 : (frs l i).size + (frameW (l.getD i ByteArray.empty)).size ≤ 9223372036854775807 := by omega
    have ew : wrap64 ((i : Int) + 1) = ((i + 1 : Nat) : Int) := by rw [wrap_succ (by omega) (by omega)]; omega
    rw [heliographlaw05_FramePuts.l0, if_pos n1, if_pos n2, er, rframe_told k _ (by omega) (by omega), Option.bind_some, frame_told k _ (by omega) (by omega), Option.bind_some]
    dsimp only
    rw [if_pos rfl, if_pos rfl, if_pos n3, ew]
    exact ih k (i + 1) (by omega) (by omega)
end

theorem FramePuts_pure (a0 : List ByteArray) (a1 : Int) (_ : (Lit.int .i64 a1).wf = true) : ∃ k, heliographlaw05_FramePuts.f k a0 a1 = some true := by
  obtain ⟨K, hK⟩ : ∃ K, K = 800000 := ⟨_, rfl⟩
  refine ⟨K, ?_⟩
  have hm := few_len (l := a0)
  unfold heliographlaw05_FramePuts.f
  rw [awake05 _ (by omega), Option.bind_some, few_told _ _ (by omega), Option.bind_some]
  exact puts_loop a1 _ few_size hm _ K 0 (Nat.zero_add _) (by omega)

end Go.Proofs.YtbanbeaemmlikaaDoor.Px
