/- What is proved: that the document's frame reader comes to the plain reading 'getF'. Condition: the text is below 2^62 bytes, and rounds enough. -/
import Derived.Test.YtbanbeaemmlikaaDoorRgetb
namespace Go.Proofs.YtbanbeaemmlikaaDoor.Px
open Go.RowKit Go.Proofs.YtbanbeaemmlikaaDoorW.PrintWords Go.Proofs.YtbanbeaemmlikaaDoorW.PrintLast Go.Proofs.YtbanbeaemmlikaaDoorW.PrintMore
open Go.Proofs.YtbanbeaemmlikaaDoor.Crc

theorem rget_f (k : Nat) (s : ByteArray) (p : Nat) (y : Option (Int × Int × Int)) (h : heliographref03_Get.l0 k s (p : Int) ((0 + 1 : Nat) : Int) = y) : heliographref03_Get.f k s (p : Int) = y := by
  unfold heliographref03_Get.f
  rw [if_neg (by omega)]
  exact h

theorem rgetF_low_f {s : ByteArray} {p : Nat} {ini : List UInt8} {last : UInt8} {rest : List UInt8} (hr : Low ((bs s).drop p) ini last rest) :
    (bs s).drop (p + ini.length + 1) = rest ∧ bs (s.extract p (p + ini.length + 1)) = ini ++ [last] ∧ p + ini.length + 1 ≤ s.size := by
  have hl : ((bs s).drop p).length = s.size - p := by rw [List.length_drop, bs_len]
  have e2 : (bs s).drop p = (ini ++ [last]) ++ rest := by rw [hr.e]; simp
  have hle : (ini ++ [last]).length = ini.length + 1 := by simp
  refine ⟨?_, ?_, ?_⟩
  · have e1 : (bs s).drop (p + ini.length + 1) = ((bs s).drop p).drop (ini.length + 1) := by rw [List.drop_drop]; congr 1
    rw [e1, e2]
    exact List.drop_left' hle
  · rw [bs_extract, e2, show p + ini.length + 1 - p = (ini ++ [last]).length by rw [hle]; omega, List.take_left]
  · rw [hr.e] at hl; simp at hl; omega

theorem rfget_fine (s : ByteArray) (p k : Nat) (ini : List UInt8) (last : UInt8) (rest : List UInt8) (hs : s.size < 4611686018427387904) (hr : Low ((bs s).drop p) ini last rest) (h9 : ini.length ≤ 9) (hf : Fine ini last) (hk : 700200 ≤ k) :
    (heliographref05_Get.j1 (k + 1) s (p : Int) ((dec (ini ++ [last]) : Nat) : Int) ((p + ini.length + 1 : Nat) : Int) (decide (((dec (ini ++ [last]) : Nat) : Int) > 70000))) = some (getN p ini last rest) := by
  obtain ⟨h1, h2, h3⟩ := rgetF_low_f hr
  have hvb : vb (dec (ini ++ [last])) = ini ++ [last] := vb_dec ini last hr.hi hr.lo hf.1
  obtain ⟨v, ev⟩ : ∃ v, v = dec (ini ++ [last]) := ⟨_, rfl⟩
  unfold getN
  rw [← ev] at hvb ⊢
  by_cases hbig : 70000 < v
  · have n1 : ((v : Nat) : Int) > 70000 := by omega
    rw [decide_eq_true n1, heliographref05_Get.j1, if_pos rfl, if_pos (.inr (.inr hbig))]; rfl
  · have n1 : ¬ ((v : Nat) : Int) > 70000 := by omega
    have n2 : ¬ (10 ≤ ini.length ∨ ¬ Fine ini last ∨ 70000 < v) := by
      rintro (h | h | h)
      · omega
      · exact h hf
      · exact hbig h
    rw [decide_eq_false n1, if_neg n2, rfget_num s p (p + ini.length + 1) k v hs h3 (by omega) (by omega) (by omega) (by rw [h2, hvb]), h1]
    unfold getB
    rfl

theorem rfget_low (s : ByteArray) (p k : Nat) (ini : List UInt8) (last : UInt8) (rest : List UInt8) (hs : s.size < 4611686018427387904) (hr : Low ((bs s).drop p) ini last rest) (hk : 700200 ≤ k) :
    ((heliographref03_Get.f (k + 1) s (p : Int)).bind fun bt258 => (if bt258.2.2 = 0 then (heliographref05_Get.j1 (k + 1) s (p : Int) bt258.1 bt258.2.1 (decide (bt258.1 > 70000))) else (heliographref05_Get.j1 (k + 1) s (p : Int) bt258.1 bt258.2.1 true))) = some (getN p ini last rest) := by
  obtain ⟨_, _, h3⟩ := rgetF_low_f hr
  by_cases h9 : ini.length ≤ 9
  · have hv := rget_f _ s p _ (rget_low s p hs ini last rest hr h9 ini.length (k + 1) 0 (by omega) (by omega))
    by_cases hf : Fine ini last
    · rw [if_pos hf] at hv
      rw [hv, Option.bind_some]
      dsimp only
      rw [if_pos rfl]
      exact rfget_fine s p k ini last rest hs hr h9 hf hk
    · rw [if_neg hf] at hv
      rw [hv, Option.bind_some]
      dsimp only
      rw [if_neg (by decide)]
      unfold getN
      rw [heliographref05_Get.j1, if_pos rfl, if_pos (.inr (.inl hf))]; rfl
  · have hv := rget_f _ s p _ (rget_high s p hs 10 (by omega) (by omega) (fun j hj => by
      have hl : ((bs s).drop p).length = s.size - p := by rw [List.length_drop, bs_len]
      rw [bt_drop s p j (by omega) (by omega)]
      have e1 : ((bs s).drop p)[j]'(by omega) = ini[j]'(by omega) := by
        simp only [hr.e]; rw [List.getElem_append_left]
      rw [e1]
      have := hr.hi _ (List.getElem_mem (l := ini) (n := j) (by omega))
      omega) 10 (k + 1) 0 (by omega) (by omega))
    rw [hv, Option.bind_some]
    dsimp only
    rw [if_neg (by decide)]
    unfold getN
    rw [heliographref05_Get.j1, if_pos rfl, if_pos (.inl (by omega))]; rfl

theorem rfget_told (s : ByteArray) (p k : Nat) (hs : s.size < 4611686018427387904) (hp : p ≤ s.size) (hk : 700300 ≤ k) : heliographref05_Get.f k s (p : Int) = some (getF s p) := by
  obtain ⟨k, rfl⟩ : ∃ m, k = m + 2 := ⟨k - 2, by omega⟩
  have n1 : ¬ (p : Int) < 0 := by omega
  have n2 : ¬ ((p : Int) > (s.size : Int)) := by omega
  unfold heliographref05_Get.f
  rw [if_neg n1, decide_eq_false n2, heliographref05_Get.j0, if_neg (by simp)]
  by_cases hpe : p = s.size
  · rw [if_pos (by omega)]
    subst hpe
    rw [getF_end]
    rfl
  · have n3 : ¬ (p : Int) = (s.size : Int) := by omega
    have n4 : (0 : Int) ≤ (p : Int) := by omega
    have n5 : (p : Int) ≤ (s.size : Int) := by omega
    rw [if_neg n3, if_pos n4, if_pos n5, Int.toNat_natCast]
    clear n1 n2 n3 n4 n5
    have hx := bs_rest s p
    have hxs : (s.extract p s.size).size = s.size - p := by rw [← bs_len, hx, List.length_drop, bs_len]
    unfold heliographref05_early.f
    rcases low_or ((bs s).drop p) with hh | ⟨ini, last, rest, hr⟩
    · rw [getF_high hh (by omega), hxs]
      by_cases h9 : s.size - p ≤ 9
      · have he := rearly_high (s.extract p s.size) (by rw [hx]; exact hh) (by omega) (s.size - p) (k + 1) 0 (by omega) (by omega)
        have n1 : ¬ (((s.size - p : Nat) : Int) > 9) := by omega
        rw [if_neg n1, show (0 : Int) = ((0 : Nat) : Int) from rfl, he, Option.bind_some, if_pos rfl, if_pos h9]; rfl
      · have n1 : (((s.size - p : Nat) : Int) > 9) := by omega
        rw [if_pos n1, Option.bind_some, if_neg (by simp), if_neg h9]
        have hv := rget_f _ s p _ (rget_high s p hs 10 (by omega) (by omega) (fun j hj => by
          have hl : ((bs s).drop p).length = s.size - p := by rw [List.length_drop, bs_len]
          rw [bt_drop s p j (by omega) (by omega)]
          have := hh _ (List.getElem_mem (l := (bs s).drop p) (n := j) (by omega))
          omega) 10 (k + 1) 0 (by omega) (by omega))
        rw [hv, Option.bind_some]
        dsimp only
        rw [if_neg (by decide), heliographref05_Get.j1, if_pos rfl]; rfl
    · rw [getF_low hr, hxs]
      by_cases h9 : s.size - p ≤ 9
      · have he := rearly_low (s.extract p s.size) ini last rest (by rw [hx]; exact hr) (by omega) ini.length (k + 1) 0 (by omega) (by
          have := (rgetF_low_f hr).2.2; omega)
        have n1 : ¬ (((s.size - p : Nat) : Int) > 9) := by omega
        rw [if_neg n1, show (0 : Int) = ((0 : Nat) : Int) from rfl, he, Option.bind_some, if_neg (by simp)]
        exact rfget_low s p k ini last rest hs hr (by omega)
      · have n1 : (((s.size - p : Nat) : Int) > 9) := by omega
        rw [if_pos n1, Option.bind_some, if_neg (by simp)]
        exact rfget_low s p k ini last rest hs hr (by omega)

/-- Outside of the text. -/
theorem fget_out (s : ByteArray) (at_ : Int) (k : Nat) (h : at_ < 0 ∨ (s.size : Int) < at_) (hk : 1 ≤ k) : frame_Get.f k s at_ = some (⟨#[]⟩, 0, 1) := by
  obtain ⟨k, rfl⟩ : ∃ m, k = m + 1 := ⟨k - 1, by omega⟩
  unfold frame_Get.f
  by_cases h0 : at_ < 0
  · rw [if_pos h0, frame_Get.j0, if_pos rfl]
  · rw [if_neg h0, decide_eq_true (by omega), frame_Get.j0, if_pos rfl]
theorem rfget_out (s : ByteArray) (at_ : Int) (k : Nat) (h : at_ < 0 ∨ (s.size : Int) < at_) (hk : 1 ≤ k) : heliographref05_Get.f k s at_ = some (⟨#[]⟩, 0, 1) := by
  obtain ⟨k, rfl⟩ : ∃ m, k = m + 1 := ⟨k - 1, by omega⟩
  unfold heliographref05_Get.f
  by_cases h0 : at_ < 0
  · rw [if_pos h0, heliographref05_Get.j0, if_pos rfl]
  · rw [if_neg h0, decide_eq_true (by omega), heliographref05_Get.j0, if_pos rfl]

end Go.Proofs.YtbanbeaemmlikaaDoor.Px
