/- What is proved: that the document's frame reader comes to the plain reading 'getF'. Condition: the text is below 2^62 bytes, and rounds enough. -/
import Derived.Test.YtbanbeaemmlikaaDoorRget
import Derived.Test.YtbanbeaemmlikaaDoorPx11
namespace Go.Proofs.YtbanbeaemmlikaaDoor.Px
open Go.RowKit Go.Proofs.YtbanbeaemmlikaaDoorW.PrintWords Go.Proofs.YtbanbeaemmlikaaDoorW.PrintLast Go.Proofs.YtbanbeaemmlikaaDoorW.PrintMore
open Go.Proofs.YtbanbeaemmlikaaDoor.Crc

theorem rearly_high (a : ByteArray) (hh : ∀ b ∈ bs a, 128 ≤ b.toNat) (hs : a.size ≤ 9) (d : Nat) : ∀ (k i : Nat), i + d = a.size → d < k → heliographref05_early.l0 k a (i : Nat) = some true := by
  induction d with
  | zero =>
    intro k i hi hk
    obtain ⟨k, rfl⟩ : ∃ m, k = m + 1 := ⟨k - 1, by omega⟩
    rw [heliographref05_early.l0, if_neg (by omega)]
  | succ d ih =>
    intro k i hi hk
    obtain ⟨k, rfl⟩ : ∃ m, k = m + 1 := ⟨k - 1, by omega⟩
    have hb : 128 ≤ bt a (i : Int) := by
      rw [bt_bs a i (by rw [bs_len]; omega)]
      have := hh _ (List.getElem_mem (l := bs a) (n := i) (by rw [bs_len]; omega))
      omega
    rw [heliographref05_early.l0, if_pos (by omega), if_pos (by omega), if_neg (by omega), wrap_succ (by omega) (by omega), show ((i : Int) + 1) = ((i + 1 : Nat) : Int) by omega]
    exact ih k (i + 1) (by omega) (by omega)

theorem rearly_low (a : ByteArray) (ini : List UInt8) (last : UInt8) (rest : List UInt8) (hr : Low (bs a) ini last rest) (hs : a.size ≤ 9) (d : Nat) : ∀ (k i : Nat), i + d = ini.length → d < k → heliographref05_early.l0 k a (i : Nat) = some false := by
  have hlen : ini.length + 1 ≤ a.size := by rw [← bs_len, hr.e]; simp
  induction d with
  | zero =>
    intro k i hi hk
    obtain ⟨k, rfl⟩ : ∃ m, k = m + 1 := ⟨k - 1, by omega⟩
    obtain rfl : i = ini.length := by omega
    have hb : bt a ((ini.length : Nat) : Int) < 128 := by
      rw [bt_bs a ini.length (by rw [bs_len]; omega)]
      have e : (bs a)[ini.length]'(by rw [bs_len]; omega) = last := by simp [hr.e]
      rw [e]; have := hr.lo; omega
    rw [heliographref05_early.l0, if_pos (by omega), if_pos (by omega), if_pos hb]
  | succ d ih =>
    intro k i hi hk
    obtain ⟨k, rfl⟩ : ∃ m, k = m + 1 := ⟨k - 1, by omega⟩
    have hil : i < ini.length := by omega
    have hb : 128 ≤ bt a (i : Int) := by
      rw [bt_bs a i (by rw [bs_len]; omega)]
      have e : (bs a)[i]'(by rw [bs_len]; omega) = ini[i] := by simp [hr.e, hil]
      rw [e]
      have := hr.hi ini[i] (List.getElem_mem hil)
      omega
    rw [heliographref05_early.l0, if_pos (by omega), if_pos (by omega), if_neg (by omega), wrap_succ (by omega) (by omega), show ((i : Int) + 1) = ((i + 1 : Nat) : Int) by omega]
    exact ih k (i + 1) (by omega) (by omega)

/-! ### The document's reader of a number -/
theorem rget_next (s : ByteArray) (p i k : Nat) (hs : p + i < s.size) (hz : s.size < 4611686018427387904) (h10 : i < 10) (hb : 128 ≤ bt s (((p + i : Nat) : Nat) : Int)) :
    heliographref03_Get.l0 (k + 1) s (p : Int) ((i + 1 : Nat) : Int) = heliographref03_Get.l0 k s (p : Int) ((i + 1 + 1 : Nat) : Int) := by
  have w1 : wrap64 ((s.size : Int) - ((i + 1 : Nat) : Int)) = (s.size : Int) - ((i + 1 : Nat) : Int) := wrap_id (by omega) (by omega)
  have w2 : wrap64 ((p : Int) + ((i + 1 : Nat) : Int)) = ((p + i + 1 : Nat) : Int) := by rw [wrap_id (by omega) (by omega)]; omega
  have w3 : wrap64 (((p + i + 1 : Nat) : Int) - 1) = ((p + i : Nat) : Int) := by rw [wrap_id (by omega) (by omega)]; omega
  have w4 : wrap64 (((i + 1 : Nat) : Int) + 1) = ((i + 1 + 1 : Nat) : Int) := by rw [wrap_id (by omega) (by omega)]; omega
  have n1 : ((i + 1 : Nat) : Int) ≤ 10 := by omega
  have n2 : ¬ ((p : Int) > (s.size : Int) - ((i + 1 : Nat) : Int)) := by omega
  have n3 : (0 : Int) ≤ ((p + i : Nat) : Int) := by omega
  have n4 : ((p + i : Nat) : Int) < (s.size : Int) := by omega
  rw [heliographref03_Get.l0, w1, w2, w3, w4, if_pos n1, if_neg n2, if_pos n3, if_pos n4, if_pos hb]

theorem rget_stop (s : ByteArray) (p i k : Nat) (hs : p + i < s.size) (hz : s.size < 4611686018427387904) (h10 : i < 10) (hb : bt s (((p + i : Nat) : Nat) : Int) < 128) :
    heliographref03_Get.l0 (k + 1) s (p : Int) ((i + 1 : Nat) : Int) = heliographref03_Get.l1 k s (p : Int) ((i + 1 : Nat) : Int) 0 ((i : Nat) : Int) := by
  have w1 : wrap64 ((s.size : Int) - ((i + 1 : Nat) : Int)) = (s.size : Int) - ((i + 1 : Nat) : Int) := wrap_id (by omega) (by omega)
  have w2 : wrap64 ((p : Int) + ((i + 1 : Nat) : Int)) = ((p + i + 1 : Nat) : Int) := by rw [wrap_id (by omega) (by omega)]; omega
  have w3 : wrap64 (((p + i + 1 : Nat) : Int) - 1) = ((p + i : Nat) : Int) := by rw [wrap_id (by omega) (by omega)]; omega
  have w4 : wrap64 (((i + 1 : Nat) : Int) - 1) = ((i : Nat) : Int) := by rw [wrap_id (by omega) (by omega)]; omega
  have n1 : ((i + 1 : Nat) : Int) ≤ 10 := by omega
  have n2 : ¬ ((p : Int) > (s.size : Int) - ((i + 1 : Nat) : Int)) := by omega
  have n3 : (0 : Int) ≤ ((p + i : Nat) : Int) := by omega
  have n4 : ((p + i : Nat) : Int) < (s.size : Int) := by omega
  rw [heliographref03_Get.l0, w1, w2, w3, w4, if_pos n1, if_neg n2, if_pos n3, if_pos n4, if_neg (Int.not_le.2 hb)]

theorem rget_end (s : ByteArray) (p i k : Nat) (hz : s.size < 4611686018427387904) (h : s.size < p + i + 1 ∨ 10 ≤ i) (h10 : i ≤ 10) :
    heliographref03_Get.l0 (k + 1) s (p : Int) ((i + 1 : Nat) : Int) = some (0, 0, 10) := by
  have w1 : wrap64 ((s.size : Int) - ((i + 1 : Nat) : Int)) = (s.size : Int) - ((i + 1 : Nat) : Int) := wrap_id (by omega) (by omega)
  rw [heliographref03_Get.l0, w1]
  by_cases h2 : ((i + 1 : Nat) : Int) ≤ 10
  · have n2 : (p : Int) > (s.size : Int) - ((i + 1 : Nat) : Int) := by omega
    rw [if_pos h2, if_pos n2]
  · rw [if_neg h2]

theorem rget_step (s : ByteArray) (p d k : Nat) (n x : Int) (hs : p + d < s.size) (hz : s.size < 4611686018427387904) :
    heliographref03_Get.l1 (k + 1) s (p : Int) n x ((d : Nat) : Int) = heliographref03_Get.l1 k s (p : Int) n (IntKind.u64.wrap ((IntKind.u64.wrap (x * 128)) + (IntKind.u64.wrap (Int.tmod (bt s (((p + d : Nat) : Nat) : Int)) 128)))) (((d : Nat) : Int) - 1) := by
  have w1 : wrap64 ((p : Int) + (d : Nat)) = ((p + d : Nat) : Int) := by rw [wrap_id (by omega) (by omega)]; omega
  have w2 : wrap64 (((d : Nat) : Int) - 1) = ((d : Nat) : Int) - 1 := by rw [wrap_id (by omega) (by omega)]
  have n1 : ((d : Nat) : Int) ≥ 0 := by omega
  have n3 : (0 : Int) ≤ ((p + d : Nat) : Int) := by omega
  have n4 : ((p + d : Nat) : Int) < (s.size : Int) := by omega
  rw [heliographref03_Get.l1, if_pos n1, w1, w2, if_pos n3, if_pos n4]

theorem rget_done (s : ByteArray) (p n k v : Nat) (pre : List UInt8) (hx : bs (s.extract p (p + n)) = pre) (hs : p + n ≤ s.size) (hz : s.size < 4611686018427387904) (hv : v < 18446744073709551616) (hk : 12 ≤ k) :
    heliographref03_Get.l1 (k + 1) s (p : Int) (n : Nat) (v : Nat) (-1) = some (if vb v = pre then (((v : Nat) : Int), ((p + n : Nat) : Int), 0) else (0, 0, 10)) := by
  have w1 : wrap64 ((p : Int) + (n : Nat)) = ((p + n : Nat) : Int) := by rw [wrap_id (by omega) (by omega)]; omega
  have n1 : ¬ ((-1 : Int) ≥ 0) := by omega
  have n2 : (0 : Int) ≤ (p : Int) := by omega
  have n3 : (p : Int) ≤ ((p + n : Nat) : Int) := by omega
  have n4 : ((p + n : Nat) : Int) ≤ (s.size : Int) := by omega
  rw [heliographref03_Get.l1, if_neg n1, rput_told _ _ hv hk, Option.bind_some]
  rw [w1, if_pos n2, if_pos n3, if_pos n4, Int.toNat_natCast, Int.toNat_natCast]
  clear w1 n1 n2 n3 n4
  by_cases hq : vb v = pre
  · have e : (⟨(vb v).toArray⟩ : ByteArray) = s.extract p (p + n) := WideShapes.bytes_inj (show bs ⟨(vb v).toArray⟩ = bs (s.extract p (p + n)) by rw [bs_mk, hx, hq])
    rw [e, if_pos rfl, if_pos hq]
  · have e : ¬ (⟨(vb v).toArray⟩ : ByteArray).toList = (s.extract p (p + n)).toList := fun h => hq (by have h2 := congrArg bs (toList_inj.1 h); rw [bs_mk, hx] at h2; exact h2)
    rw [if_neg e, if_neg hq]

/-- One byte more ahead of what is read. -/
theorem rget_acc (x b : Nat) (hb : b < 256) : IntKind.u64.wrap ((IntKind.u64.wrap (((x : Nat) : Int) * 128)) + (IntKind.u64.wrap (Int.tmod ((b : Nat) : Int) 128))) = (((b % 128 + 128 * x) % 18446744073709551616 : Nat) : Int) := by
  have t1 : Int.tmod (b : Int) 128 = ((b % 128 : Nat) : Int) := by rw [Int.tmod_eq_emod_of_nonneg (by omega)]; omega
  rw [t1, u64_id (by omega)]
  simp [IntKind.wrap, IntKind.bits, IntKind.signed]
  omega

section
variable (s : ByteArray) (p : Nat) (hs : s.size < 4611686018427387904)
include hs

theorem rget_sum (pre : List UInt8) (hpre : ∃ rest, (bs s).drop p = pre ++ rest) (h1 : 1 ≤ pre.length) (d : Nat) : ∀ (k : Nat), d ≤ pre.length → d + 14 < k →
    heliographref03_Get.l1 k s (p : Int) (pre.length : Nat) ((dec (pre.drop d) % 18446744073709551616 : Nat) : Int) ((d : Nat) - 1 : Int) =
      some (if vb (dec pre % 18446744073709551616) = pre then (((dec pre % 18446744073709551616 : Nat) : Int), ((p + pre.length : Nat) : Int), 0) else (0, 0, 10)) := by
  obtain ⟨rest, hrest⟩ := hpre
  have hl2 : p + pre.length ≤ s.size := by
    have hl : ((bs s).drop p).length = s.size - p := by rw [List.length_drop, bs_len]
    rw [hrest, List.length_append] at hl; omega
  induction d with
  | zero =>
    intro k _ hk
    obtain ⟨k, rfl⟩ : ∃ m, k = m + 1 := ⟨k - 1, by omega⟩
    have hx : bs (s.extract p (p + pre.length)) = pre := by
      rw [bs_extract, hrest, show p + pre.length - p = pre.length by omega, List.take_left]
    rw [List.drop_zero, show (((0 : Nat) : Int) - 1) = -1 from rfl]
    exact rget_done s p pre.length k _ pre hx hl2 hs (Nat.mod_lt _ (by decide)) (by omega)
  | succ d ih =>
    intro k hd hk
    obtain ⟨k, rfl⟩ : ∃ m, k = m + 1 := ⟨k - 1, by omega⟩
    have hdl : d < pre.length := by omega
    have e0 : (((d + 1 : Nat) : Int) - 1) = ((d : Nat) : Int) := by omega
    have eb : bt s (((p + d : Nat) : Nat) : Int) = (pre[d].toNat : Int) := by
      rw [bt_drop s p d (by omega) (by rw [hrest, List.length_append]; omega)]
      have : ((bs s).drop p)[d]'(by rw [hrest, List.length_append]; omega) = pre[d] := by simp [hrest, hdl]
      rw [this]
    have ed : dec (pre.drop d) = pre[d].toNat % 128 + 128 * dec (pre.drop (d + 1)) := by rw [List.drop_eq_getElem_cons hdl]; rfl
    rw [e0, rget_step s p d k _ _ (by omega) hs, eb, rget_acc _ _ pre[d].toNat_lt]
    have em : (pre[d].toNat % 128 + 128 * (dec (pre.drop (d + 1)) % 18446744073709551616)) % 18446744073709551616 = dec (pre.drop d) % 18446744073709551616 := by rw [ed]; omega
    rw [em]
    exact ih k (by omega) (by omega)

theorem rget_low (ini : List UInt8) (last : UInt8) (rest : List UInt8) (hr : Low ((bs s).drop p) ini last rest) (h9 : ini.length ≤ 9) (d : Nat) : ∀ (k i : Nat), i + d = ini.length → d + 40 < k →
    heliographref03_Get.l0 k s (p : Int) ((i + 1 : Nat) : Int) = some (if Fine ini last then (((dec (ini ++ [last]) : Nat) : Int), ((p + ini.length + 1 : Nat) : Int), 0) else (0, 0, 10)) := by
  have hps : p + ini.length < s.size ∧ ini.length < ((bs s).drop p).length := by
    have hlen2 : ((bs s).drop p).length = s.size - p := by rw [List.length_drop, bs_len]
    have := hlen2
    rw [hr.e] at hlen2; simp at hlen2; omega
  induction d with
  | zero =>
    intro k i hi hk
    obtain ⟨k, rfl⟩ : ∃ m, k = m + 1 := ⟨k - 1, by omega⟩
    obtain rfl : i = ini.length := by omega
    have eb : bt s (((p + ini.length : Nat) : Nat) : Int) = (last.toNat : Int) := by
      rw [bt_drop s p ini.length hps.1 hps.2]
      have : ((bs s).drop p)[ini.length]'hps.2 = last := by simp [hr.e]
      rw [this]
    have hlo := hr.lo
    rw [rget_stop s p ini.length k hps.1 hs (by omega) (by rw [eb]; omega)]
    have hsum := rget_sum s p hs (ini ++ [last]) ⟨rest, by rw [hr.e]; simp⟩ (by simp) (ini.length + 1) k (by simp) (by omega)
    have e0 : (ini ++ [last]).drop (ini.length + 1) = [] := List.drop_eq_nil_of_le (by simp)
    have e1 : (((ini.length + 1 : Nat) : Int) - 1) = ((ini.length : Nat) : Int) := by omega
    have e2 : (ini ++ [last]).length = ini.length + 1 := by simp
    rw [e0, e1, e2, show ((dec [] % 18446744073709551616 : Nat) : Int) = 0 from rfl] at hsum
    rw [hsum]
    clear hsum eb
    congr 1
    have hiff := vb_iff ini last hr.hi hr.lo h9
    by_cases hf : Fine ini last
    · have h2 := hiff.2 hf
      have h3 := congrArg dec h2
      rw [dec_vb] at h3
      rw [if_pos h2, if_pos hf, h3]
      rfl
    · rw [if_neg (fun h => hf (hiff.1 h)), if_neg hf]
  | succ d ih =>
    intro k i hi hk
    obtain ⟨k, rfl⟩ : ∃ m, k = m + 1 := ⟨k - 1, by omega⟩
    have hil : i < ini.length := by omega
    have eb : bt s (((p + i : Nat) : Nat) : Int) = (ini[i].toNat : Int) := by
      rw [bt_drop s p i (by omega) (by omega)]
      have : ((bs s).drop p)[i]'(by omega) = ini[i] := by simp [hr.e, hil]
      rw [this]
    have hb := hr.hi ini[i] (List.getElem_mem hil)
    rw [rget_next s p i k (by omega) hs (by omega) (by rw [eb]; omega)]
    exact ih k (i + 1) (by omega) (by omega)

theorem rget_high (n : Nat) (hn : n = min 10 (s.size - p)) (hp : p ≤ s.size) (hh : ∀ j, j < n → 128 ≤ bt s (((p + j : Nat) : Nat) : Int)) (d : Nat) : ∀ (k i : Nat), i + d = n → d + 2 < k → heliographref03_Get.l0 k s (p : Int) ((i + 1 : Nat) : Int) = some (0, 0, 10) := by
  induction d with
  | zero =>
    intro k i hi hk
    obtain ⟨k, rfl⟩ : ∃ m, k = m + 1 := ⟨k - 1, by omega⟩
    exact rget_end s p i k hs (by omega) (by omega)
  | succ d ih =>
    intro k i hi hk
    obtain ⟨k, rfl⟩ : ∃ m, k = m + 1 := ⟨k - 1, by omega⟩
    rw [rget_next s p i k (by omega) hs (by omega) (hh i (by omega))]
    exact ih k (i + 1) (by omega) (by omega)
end

theorem rfget_num (s : ByteArray) (p q k v : Nat) (hs : s.size < 4611686018427387904) (hq : q ≤ s.size) (hv : v ≤ 70000) (hk : 700100 ≤ k) (hpq : p ≤ q) (hvb : bs (s.extract p q) = vb v) :
    heliographref05_Get.j1 (k + 1) s (p : Int) (v : Int) (q : Int) false = some (getB p q v ((bs s).drop q)) := by
  have w1 : wrap64 ((v : Nat) : Int) = ((v : Nat) : Int) := wrap_id (by omega) (by omega)
  have w2 : wrap64 (((q : Nat) : Int) + ((v : Nat) : Int)) = ((q + v : Nat) : Int) := by rw [wrap_id (by omega) (by omega)]; omega
  have w3 : wrap64 (((q + v : Nat) : Int) + 4) = ((q + v + 4 : Nat) : Int) := by rw [wrap_id (by omega) (by omega)]; omega
  have w4 : wrap64 (((v : Nat) : Int) + 4) = ((v + 4 : Nat) : Int) := by rw [wrap_id (by omega) (by omega)]; omega
  have w5 : wrap64 ((s.size : Int) - ((q : Nat) : Int)) = (s.size : Int) - ((q : Nat) : Int) := wrap_id (by omega) (by omega)
  have hl : ((bs s).drop q).length = s.size - q := by rw [List.length_drop, bs_len]
  unfold getB
  rw [hl, heliographref05_Get.j1, if_neg (by simp), w1, w2, w3, w4, w5]
  clear w1 w2 w3 w4 w5
  by_cases hsh : s.size - q < v + 4
  · rw [if_pos hsh, if_pos (by omega)]; rfl
  · have n1 : ¬ ((s.size : Int) - ((q : Nat) : Int) < ((v + 4 : Nat) : Int)) := by omega
    have n2 : (0 : Int) ≤ (q : Int) := by omega
    have n3 : (q : Int) ≤ ((q + v : Nat) : Int) := by omega
    have n4 : ((q + v : Nat) : Int) ≤ (s.size : Int) := by omega
    have n5 : (0 : Int) ≤ (p : Int) := by omega
    have n6 : (p : Int) ≤ ((q + v + 4 : Nat) : Int) := by omega
    have n7 : ((q + v + 4 : Nat) : Int) ≤ (s.size : Int) := by omega
    have hb : bs (s.extract q (q + v)) = ((bs s).drop q).take v := by rw [bs_extract, show q + v - q = v by omega]
    have hbl : (s.extract q (q + v)).size = v := by rw [← bs_len, hb, List.length_take, hl]; omega
    rw [if_neg n1, if_neg hsh, if_pos n2, if_pos n3, if_pos n4, Int.toNat_natCast, Int.toNat_natCast, rframe_told _ _ (by omega) hk]
    simp only [Option.bind_some]
    rw [if_pos n5, if_pos n6, if_pos n7, Int.toNat_natCast, Int.toNat_natCast]
    clear n1 n2 n3 n4 n5 n6 n7
    have hvl : (vb v).length = q - p := by
      rw [← hvb, bs_len, ByteArray.size_extract]; omega
    have hw : bs (s.extract p (q + v + 4)) = vb v ++ (((bs s).drop q).take v ++ (((bs s).drop q).drop v).take 4) := by
      rw [← hvb, bs_extract, bs_extract, show q + v + 4 - p = (q - p) + (v + 4) by omega, List.take_add, List.drop_drop, show p + (q - p) = q by omega, List.take_add]
    have hf : bs (frameW (s.extract q (q + v))) = vb v ++ (((bs s).drop q).take v ++ bs (tail4 (sumW (((bs s).drop q).take v)))) := by
      rw [frameW_bs, hbl, hb]
    by_cases hc : (((bs s).drop q).drop v).take 4 = bs (tail4 (sumW (((bs s).drop q).take v)))
    · have e : s.extract p (q + v + 4) = frameW (s.extract q (q + v)) := WideShapes.bytes_inj (show bs (s.extract p (q + v + 4)) = bs (frameW (s.extract q (q + v))) by rw [hw, hf, hc])
      have e2 : s.extract q (q + v) = ⟨(((bs s).drop q).take v).toArray⟩ := WideShapes.bytes_inj (show bs (s.extract q (q + v)) = bs ⟨(((bs s).drop q).take v).toArray⟩ by rw [hb, bs_mk])
      rw [e, if_pos rfl, if_pos hc, e2]
    · have e : ¬ (s.extract p (q + v + 4)).toList = (frameW (s.extract q (q + v))).toList := fun h => by
        apply hc
        have h2 := congrArg bs (toList_inj.1 h)
        rw [hw, hf] at h2
        exact List.append_cancel_left (List.append_cancel_left h2)
      rw [if_neg e, if_neg hc]
      rfl

end Go.Proofs.YtbanbeaemmlikaaDoor.Px
