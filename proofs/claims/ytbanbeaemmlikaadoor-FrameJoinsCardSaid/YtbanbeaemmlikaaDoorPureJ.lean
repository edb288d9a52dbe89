/- What is proved: that the statement FrameJoins, as a plain function, answers true at every input. No condition. -/
import Derived.Test.YtbanbeaemmlikaaDoorScanG
import Derived.Test.YtbanbeaemmlikaaDoorJoin
namespace Go.Proofs.YtbanbeaemmlikaaDoor.Px
open Go.RowKit Go.Proofs.YtbanbeaemmlikaaDoorW.PrintWords Go.Proofs.YtbanbeaemmlikaaDoorW.PrintLast Go.Proofs.YtbanbeaemmlikaaDoorW.PrintMore
open Go.Proofs.YtbanbeaemmlikaaDoor.Crc

theorem scan_more (s : ByteArray) (d : Nat) : ∀ (p : Nat) (acc : List ByteArray), p ≤ s.size → s.size - p ≤ d → scanF s (d + 1) p acc = scanF s d p acc := by
  induction d with
  | zero =>
    intro p acc hp hd
    obtain rfl : p = s.size := by omega
    rw [scan_stop (b := ⟨#[]⟩) (n := (s.size : Int)) (by omega) (Nat.le_refl _) getF_end (by decide)]
    rfl
  | succ d ih =>
    intro p acc hp hd
    obtain ⟨⟨b, n, st⟩, hg⟩ : ∃ x, x = getF s p := ⟨_, rfl⟩
    change (if (getF s p).2.2 = 0 then scanF s (d + 1) (getF s p).2.1.toNat (acc ++ [(getF s p).1]) else (acc, (p : Int), (getF s p).2.2)) = (if (getF s p).2.2 = 0 then scanF s d (getF s p).2.1.toNat (acc ++ [(getF s p).1]) else (acc, (p : Int), (getF s p).2.2))
    rw [← hg]
    dsimp only
    by_cases h0 : st = 0
    · subst h0
      obtain ⟨p', rfl, h1, h2⟩ := getF_whole s p b n hp hg.symm
      rw [if_pos rfl, if_pos rfl, Int.toNat_natCast]
      exact ih p' _ h2 (by omega)
    · rw [if_neg h0, if_neg h0]
theorem scan_fuel (s : ByteArray) (d x p : Nat) (acc : List ByteArray) (hp : p ≤ s.size) (hd : s.size - p ≤ d) : scanF s (d + x) p acc = scanF s d p acc := by
  induction x with
  | zero => rfl
  | succ x ih => rw [← Nat.add_assoc, scan_more s (d + x) p acc hp (by omega), ih]

theorem scan_len (s : ByteArray) (d : Nat) : ∀ (p : Nat) (acc : List ByteArray), p ≤ s.size → (scanF s d p acc).1.length ≤ acc.length + d ∧ 0 ≤ (scanF s d p acc).2.1 ∧ (scanF s d p acc).2.1 ≤ (s.size : Int) := by
  induction d with
  | zero =>
    intro p acc hp
    refine ⟨Nat.le_refl _, ?_, ?_⟩
    · show (0 : Int) ≤ (p : Int); omega
    · show (p : Int) ≤ (s.size : Int); omega
  | succ d ih =>
    intro p acc hp
    obtain ⟨⟨b, n, st⟩, hg⟩ : ∃ x, x = getF s p := ⟨_, rfl⟩
    rw [scanF, ← hg]
    dsimp only
    by_cases h0 : st = 0
    · subst h0
      obtain ⟨p', rfl, h1, h2⟩ := getF_whole s p b n hp hg.symm
      rw [if_pos rfl, Int.toNat_natCast]
      have := ih p' (acc ++ [b]) h2
      rw [List.length_append, List.length_singleton] at this
      exact ⟨by omega, this.2.1, this.2.2⟩
    · rw [if_neg h0]
      refine ⟨by dsimp only; omega, ?_, ?_⟩ <;> dsimp only <;> omega

theorem cats_size {l : List ByteArray} (hl : ∀ x ∈ l, x.size ≤ 300) : (cats l ⟨#[]⟩).size ≤ 307 * l.length := by
  have := frs_size hl l.length
  rw [frs_cats l _ (Nat.le_refl _), List.take_length] at this
  exact this

theorem cats_len (l : List ByteArray) : (fb l).length = (cats l ⟨#[]⟩).size := by
  rw [← bs_len, cats_bs]
  rfl

theorem scan_behind (k : Nat) (l : List ByteArray) (hl : ∀ x ∈ l, x.size ≤ 300) (hn : l.length ≤ 40) (t : ByteArray) (ht : t.size ≤ 20000) (hk : 800000 ≤ k) :
    frame_Scan.f k (cats l ⟨#[]⟩ ++ t) = some (l ++ (scanF t t.size 0 []).1, ((cats l ⟨#[]⟩).size : Int) + (scanF t t.size 0 []).2.1, (scanF t t.size 0 []).2.2) := by
  have hz := cats_size hl
  have hc := cats_len l
  have hs : (cats l ⟨#[]⟩ ++ t).size = (fb l).length + t.size := by rw [ByteArray.size_append, hc]
  have hb : bs (cats l ⟨#[]⟩ ++ t) = fb l ++ bs t := by rw [bs_cat, cats_bs]; rfl
  unfold frame_Scan.f
  rw [show (0 : Int) = ((0 : Nat) : Int) from rfl, scan_told _ (by omega) (cats l ⟨#[]⟩ ++ t).size k 0 [] (by omega) (by omega) (by omega) (by simp only [List.length_nil]; omega)]
  obtain ⟨d', e, h1, h2⟩ := scan_frames (s := cats l ⟨#[]⟩ ++ t) l (d := (cats l ⟨#[]⟩ ++ t).size) (p := 0) (acc := []) (r := bs t) (fun x hx => by have := hl x hx; omega) (by omega) (Nat.zero_le _) (by rw [List.drop_zero, hb])
  rw [Nat.zero_add] at h1 h2 e
  have e2 := scan_shift (s := cats l ⟨#[]⟩ ++ t) (t := t) (c := (fb l).length) l hs (fun q hq => by rw [hb, ← List.drop_drop, List.drop_left]) d' 0 [] (Nat.zero_le _) (by omega)
  rw [List.append_nil, Nat.add_zero] at e2
  obtain ⟨x, hx⟩ : ∃ x, d' = t.size + x := ⟨d' - t.size, by omega⟩
  rw [e, List.nil_append, e2, hx, scan_fuel t t.size x 0 [] (Nat.zero_le _) (by omega), hc]

theorem scan_end (m : List ByteArray) (hm : ∀ x ∈ m, x.size ≤ 300) : scanF (cats m ⟨#[]⟩) (cats m ⟨#[]⟩).size 0 [] = (m, ((cats m ⟨#[]⟩).size : Int), 1) := by
  have hc := cats_len m
  obtain ⟨d', e, h1, h2⟩ := scan_frames (s := cats m ⟨#[]⟩) m (d := (cats m ⟨#[]⟩).size) (p := 0) (acc := []) (r := []) (fun x hx => by have := hm x hx; omega) (by omega) (Nat.zero_le _) (by rw [List.drop_zero, cats_bs, List.append_nil]; rfl)
  rw [Nat.zero_add] at h1 h2 e
  rw [e, hc, List.nil_append]
  exact scan_stop (b := ⟨#[]⟩) (n := ((cats m ⟨#[]⟩).size : Int)) (by omega) (Nat.le_refl _) getF_end (by decide)

theorem wsum (a b : Nat) (ha : a < 100000) (hb : b < 100000) : wrap64 ((a : Int) + (b : Int)) = (a : Int) + (b : Int) := wrap_id (by omega) (by omega)
theorem wsumI (a : Nat) (n : Int) (ha : a < 100000) (h0 : 0 ≤ n) (h1 : n < 100000) : wrap64 ((a : Int) + n) = (a : Int) + n := wrap_id (by omega) (by omega)
theorem len_le (l m : List ByteArray) : (l.length : Int) ≤ ((l ++ m).length : Int) := by rw [List.length_append]; omega
theorem len_app (l m : List ByteArray) : ((l ++ m).length : Int) = (l.length : Int) + (m.length : Int) := by rw [List.length_append]; omega
theorem joins_sizes (a b n m c : Nat) (h1 : a ≤ 307 * n) (h2 : b ≤ 307 * m) (hn : n ≤ 20) (hm : m ≤ 20) (hc : c ≤ 100) : a < 100000 ∧ b < 100000 ∧ a + b ≤ 9223372036854775807 ∧ a + c ≤ 9223372036854775807 ∧ n < 100000 ∧ m < 100000 ∧ c < 100000 := by omega

theorem FrameJoins_pure (a0 a1 : List ByteArray) (a2 : ByteArray) : ∃ k, heliographlaw05_FrameJoins.f k a0 a1 a2 = some true := by
  obtain ⟨K, hK⟩ : ∃ K, K = 900000 := ⟨_, rfl⟩
  refine ⟨K + 1, ?_⟩
  have hl := few_size (l := a0)
  have hm := few_size (l := a1)
  have nl := few_len (l := a0)
  have nm := few_len (l := a1)
  have f0 := few_told a0 (K + 1) (by omega)
  have f1 := few_told a1 (K + 1) (by omega)
  obtain ⟨l, el⟩ : ∃ l, l = (a0.take 20).map (cut · 300) := ⟨_, rfl⟩
  obtain ⟨m, em⟩ : ∃ m, m = (a1.take 20).map (cut · 300) := ⟨_, rfl⟩
  rw [← el] at hl nl f0
  rw [← em] at hm nm f1
  clear el em
  have hl2 : ∀ x ∈ l, x.size ≤ 70000 := fun x hx => by have := hl x hx; omega
  have hm2 : ∀ x ∈ m, x.size ≤ 70000 := fun x hx => by have := hm x hx; omega
  have hK1 : 70100 ≤ K + 1 := by omega
  have z0 : (⟨#[]⟩ : ByteArray).size = 0 := rfl
  have bg0 : (⟨#[]⟩ : ByteArray).size + 70007 * l.length ≤ 140737488355328 := by rw [z0]; omega
  have dg0 : l.length < 9223372036854775807 := by omega
  have g0 : frame_All.f (K + 1) l = some (cats l ⟨#[]⟩, 0) := by
    unfold frame_All.f
    rw [if_pos dg0, all_told (K + 1) hK1 l ⟨#[]⟩ hl2 bg0]
  have bg1 : (⟨#[]⟩ : ByteArray).size + 70007 * m.length ≤ 140737488355328 := by rw [z0]; omega
  have dg1 : m.length < 9223372036854775807 := by omega
  have g1 : frame_All.f (K + 1) m = some (cats m ⟨#[]⟩, 0) := by
    unfold frame_All.f
    rw [if_pos dg1, all_told (K + 1) hK1 m ⟨#[]⟩ hm2 bg1]
  have zl := cats_size hl
  have zm := cats_size hm
  have ht := cut_size a2 100
  have s1 := scan_behind (K + 1) l hl (by omega) (cats m ⟨#[]⟩) (by omega) (by omega)
  rw [scan_end m hm] at s1
  have s2 := scan_behind K l hl (by omega) (cut a2 100) (by omega) (by omega)
  have s3 : frame_Scan.f K (cut a2 100) = some (scanF (cut a2 100) (cut a2 100).size 0 []) := by
    unfold frame_Scan.f
    rw [show (0 : Int) = ((0 : Nat) : Int) from rfl, scan_told _ (by omega) (cut a2 100).size K 0 [] (by omega) (by omega) (by omega) (by simp only [List.length_nil]; omega)]
  have s4 := scan_len (cut a2 100) (cut a2 100).size 0 [] (Nat.zero_le _)
  generalize scanF (cut a2 100) (cut a2 100).size 0 [] = q at s2 s3 s4
  obtain ⟨o, n, st⟩ := q
  dsimp only at s1 s2 s4
  rw [List.length_nil, Nat.zero_add] at s4
  obtain ⟨s4, s5, s6⟩ := s4
  obtain ⟨k1, k2, c1, c2, k3, k4, k5⟩ := joins_sizes _ _ _ _ _ zl zm nl nm ht
  have h1 := len_app l m
  have h2 := len_app l o
  have w1 := wsum l.length m.length k3 k4
  have w2 := wsum l.length o.length k3 (Nat.lt_of_le_of_lt s4 k5)
  have w3 := wsumI (cats l ⟨#[]⟩).size n k1 s5 (Int.lt_of_le_of_lt s6 (Int.ofNat_lt.2 k5))
  have c3 : (0 : Int) ≤ (l.length : Int) := Int.natCast_nonneg _
  have c4 := len_le l m
  have c5 := len_le l o
  have k6 : o.length < 100000 := Nat.lt_of_le_of_lt s4 k5
  clear zl zm ht s4 s5 s6 nl nm hl hm hl2 hm2
  have kk : 100000 ≤ K := by omega
  have k62 : (100000 : Nat) ≤ 4611686018427387904 := by decide
  have r1 := same_refl K l (Nat.lt_of_lt_of_le k3 k62) (Nat.lt_of_lt_of_le k3 kk)
  have r2 := same_refl K m (Nat.lt_of_lt_of_le k4 k62) (Nat.lt_of_lt_of_le k4 kk)
  have r3 := same_refl K o (Nat.lt_of_lt_of_le k6 k62) (Nat.lt_of_lt_of_le k6 kk)
  have e5 : ((((l ++ m).length : Int)) != ((l.length : Int) + (m.length : Int))) = false := by rw [h1]; simp
  unfold heliographlaw05_FrameJoins.f
  rw [awake05 _ (by omega), Option.bind_some, f0, Option.bind_some, f1, Option.bind_some, g0, Option.bind_some, g1, Option.bind_some]
  dsimp only
  rw [if_pos c1, s1, Option.bind_some]
  dsimp only
  rw [if_pos rfl, if_pos rfl, if_pos rfl, if_pos rfl, w1, e5, heliographlaw05_FrameJoins.j0, if_neg (by simp), if_pos c3, if_pos c4, Int.toNat_natCast, List.take_left, List.drop_left, r1, Option.bind_some, r2, Option.bind_some,
    show (100 : Int) = ((100 : Nat) : Int) from rfl, short05, Option.bind_some, s3, Option.bind_some, if_pos c2, s2, Option.bind_some]
  dsimp only
  rw [w2, if_pos h2, if_pos c5, List.drop_left, r3, Option.bind_some, if_pos rfl, if_pos rfl, if_pos rfl, if_pos rfl, w3, if_pos rfl]
  simp

end Go.Proofs.YtbanbeaemmlikaaDoor.Px
