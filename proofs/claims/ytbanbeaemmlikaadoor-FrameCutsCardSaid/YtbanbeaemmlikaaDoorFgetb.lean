/- What is proved: that frame.Get comes to the plain reading 'getF' of the bytes at a place. Condition: the text is below 2^62 bytes, and rounds enough. -/
import Derived.Test.YtbanbeaemmlikaaDoorFget
import Derived.Test.YtbanbeaemmlikaaDoorPx9
namespace Go.Proofs.YtbanbeaemmlikaaDoor.Px
open Go.RowKit Go.Proofs.YtbanbeaemmlikaaDoorW.PrintWords Go.Proofs.YtbanbeaemmlikaaDoorW.PrintLast Go.Proofs.YtbanbeaemmlikaaDoorW.PrintMore
open Go.Proofs.YtbanbeaemmlikaaDoor.Crc

theorem bt_bs (a : ByteArray) (j : Nat) (h : j < (bs a).length) : bt a (j : Int) = ((bs a)[j].toNat : Int) := by
  have h2 : j < a.size := by rw [← bs_len]; exact h
  rw [← bt_at a (j : Int) (by omega)]
  simp only [Int.toNat_natCast]
  rw [Array.getElem_toList]
  rfl

theorem bs_extract (s : ByteArray) (a b : Nat) : bs (s.extract a b) = ((bs s).drop a).take (b - a) := by
  simp [bs, ByteArray.data_extract, Array.toList_extract, List.extract]
theorem bs_rest (s : ByteArray) (p : Nat) : bs (s.extract p s.size) = (bs s).drop p := by
  rw [bs_extract, List.take_of_length_le (by rw [List.length_drop, bs_len]; exact Nat.le_refl _)]

theorem early_high (a : ByteArray) (hs : a.size < 4611686018427387904) (hh : ∀ b ∈ bs a, 128 ≤ b.toNat) (d : Nat) : ∀ (k i : Nat), i + d = min 9 a.size → d + 1 < k → frame_early.l0 k a (a.size : Int) (i : Nat) = some (decide (a.size ≤ 9)) := by
  have hb : ∀ i : Nat, i < a.size → 128 ≤ bt a (i : Int) := fun i hi => by
    rw [bt_bs a i (by rw [bs_len]; exact hi)]
    have := hh _ (List.getElem_mem (l := bs a) (n := i) (by rw [bs_len]; exact hi))
    omega
  induction d with
  | zero =>
    intro k i hi hk
    obtain ⟨k, rfl⟩ : ∃ m, k = m + 1 := ⟨k - 1, by omega⟩
    rw [frame_early.l0]
    by_cases h : i < a.size
    · have := hb i h
      rw [if_pos (by omega), if_pos (by omega), if_pos (by omega), if_neg (by omega), if_pos (by omega), decide_eq_false (by omega)]
    · rw [if_neg (by omega), decide_eq_true (by omega)]
  | succ d ih =>
    intro k i hi hk
    obtain ⟨k, rfl⟩ : ∃ m, k = m + 1 := ⟨k - 1, by omega⟩
    have := hb i (by omega)
    rw [frame_early.l0, if_pos (by omega), if_pos (by omega), if_pos (by omega), if_neg (by omega), if_neg (by omega), wrap_succ (by omega) (by omega), show ((i : Int) + 1) = ((i + 1 : Nat) : Int) by omega]
    exact ih k (i + 1) (by omega) (by omega)

theorem early_low (a : ByteArray) (hs : a.size < 4611686018427387904) (ini : List UInt8) (last : UInt8) (rest : List UInt8) (hr : Low (bs a) ini last rest) (d : Nat) : ∀ (k i : Nat), i + d = min 9 ini.length → d + 1 < k → frame_early.l0 k a (a.size : Int) (i : Nat) = some false := by
  have hlen : ini.length + 1 ≤ (bs a).length := by rw [hr.e]; simp
  have hlen2 : (bs a).length = a.size := bs_len a
  induction d with
  | zero =>
    intro k i hi hk
    obtain ⟨k, rfl⟩ : ∃ m, k = m + 1 := ⟨k - 1, by omega⟩
    rw [frame_early.l0, if_pos (by omega), if_pos (by omega), if_pos (by omega)]
    by_cases h : bt a (i : Int) < 128
    · rw [if_pos h]
    · rw [if_neg h]
      have : i = 9 := by
        by_cases h9 : i = ini.length
        · exfalso
          apply h
          rw [bt_bs a i (by omega)]
          have e : (bs a)[i]'(by omega) = last := by subst h9; simp [hr.e]
          rw [e]; have := hr.lo; omega
        · omega
      rw [if_pos (by omega)]
  | succ d ih =>
    intro k i hi hk
    obtain ⟨k, rfl⟩ : ∃ m, k = m + 1 := ⟨k - 1, by omega⟩
    have hil : i < ini.length := by omega
    have hb : 128 ≤ bt a (i : Int) := by
      rw [bt_bs a i (by omega)]
      have e : (bs a)[i]'(by omega) = ini[i] := by simp [hr.e, hil]
      rw [e]
      have := hr.hi ini[i] (List.getElem_mem hil)
      omega
    rw [frame_early.l0, if_pos (by omega), if_pos (by omega), if_pos (by omega), if_neg (by omega), if_neg (by omega), wrap_succ (by omega) (by omega), show ((i : Int) + 1) = ((i + 1 : Nat) : Int) by omega]
    exact ih k (i + 1) (by omega) (by omega)

/-! ### The plain reading -/
def inis (r : List UInt8) : List UInt8 := r.takeWhile fun b => decide (128 ≤ b.toNat)
theorem inis_low {r ini : List UInt8} {last : UInt8} {rest : List UInt8} (h : Low r ini last rest) : inis r = ini := by
  unfold inis
  rw [h.e]
  have h1 := h.hi
  have h2 := h.lo
  clear h
  induction ini with
  | nil => rw [List.nil_append, List.takeWhile_cons]; simp; omega
  | cons b l ih =>
    rw [List.cons_append, List.takeWhile_cons, if_pos (by simpa using h1 b (List.mem_cons_self ..)), ih (fun x hx => h1 x (List.mem_cons_of_mem _ hx))]
theorem inis_high {r : List UInt8} (h : ∀ b ∈ r, 128 ≤ b.toNat) : inis r = r := by
  unfold inis
  induction r with
  | nil => rfl
  | cons b l ih => rw [List.takeWhile_cons, if_pos (by simpa using h b (List.mem_cons_self ..)), ih (fun x hx => h x (List.mem_cons_of_mem _ hx))]

def none3 (p : Nat) (st : Int) : ByteArray × Int × Int := (⟨#[]⟩, (p : Int), st)
/-- What a number's place, and what stands behind it, come to. -/
def getN (p : Nat) (ini : List UInt8) (last : UInt8) (rest : List UInt8) : ByteArray × Int × Int :=
  if 10 ≤ ini.length ∨ ¬ Fine ini last ∨ 70000 < dec (ini ++ [last]) then none3 p 3
  else if rest.length < dec (ini ++ [last]) + 4 then none3 p 2
  else if (rest.drop (dec (ini ++ [last]))).take 4 = bs (tail4 (sumW (rest.take (dec (ini ++ [last]))))) then (⟨(rest.take (dec (ini ++ [last]))).toArray⟩, ((p + ini.length + 1 + dec (ini ++ [last]) + 4 : Nat) : Int), 0)
  else none3 p 3
def getF (s : ByteArray) (p : Nat) : ByteArray × Int × Int :=
  if (bs s).drop p = [] then none3 p 1
  else match ((bs s).drop p).drop (inis ((bs s).drop p)).length with
    | [] => if s.size - p ≤ 9 then none3 p 2 else none3 p 3
    | last :: rest => getN p (inis ((bs s).drop p)) last rest

theorem getF_low {s : ByteArray} {p : Nat} {ini : List UInt8} {last : UInt8} {rest : List UInt8} (h : Low ((bs s).drop p) ini last rest) : getF s p = getN p ini last rest := by
  unfold getF
  rw [inis_low h, if_neg (by rw [h.e]; simp), h.e, List.drop_left]
theorem getF_high {s : ByteArray} {p : Nat} (h : ∀ b ∈ (bs s).drop p, 128 ≤ b.toNat) (hp : p < s.size) : getF s p = if s.size - p ≤ 9 then none3 p 2 else none3 p 3 := by
  unfold getF
  have hl : ((bs s).drop p).length = s.size - p := by rw [List.length_drop, bs_len]
  rw [inis_high h, if_neg (by intro e; rw [e] at hl; simp at hl; omega), List.drop_length]
theorem getF_end {s : ByteArray} : getF s s.size = none3 s.size 1 := by
  unfold getF
  rw [if_pos (List.drop_eq_nil_of_le (by rw [bs_len]; exact Nat.le_refl _))]

theorem bs_cat (a b : ByteArray) : bs (a ++ b) = bs a ++ bs b := by simp [bs, ByteArray.data_append]
theorem mk_bs (a : ByteArray) : (⟨(bs a).toArray⟩ : ByteArray) = a := WideShapes.bytes_inj (by simp [bs])
theorem bs_mk (l : List UInt8) : bs ⟨l.toArray⟩ = l := by simp [bs]

theorem open_at (e : ByteArray) (x y : List UInt8) (he : bs e = x ++ y) (hy : y.length = 4) : openW e = if y = bs (tail4 (sumW x)) then (⟨x.toArray⟩, true) else (⟨#[]⟩, false) := by
  have hl : e.size = x.length + 4 := by rw [← bs_len, he, List.length_append, hy]
  have hx : bs (e.extract 0 (e.size - 4)) = x := by
    rw [bs_extract, hl, he, List.drop_zero, Nat.add_sub_cancel, Nat.sub_zero, List.take_left]
  have hx2 : e.extract 0 (e.size - 4) = ⟨x.toArray⟩ := by rw [← hx, mk_bs]
  unfold openW
  by_cases hq : y = bs (tail4 (sumW x))
  · rw [if_pos hq, if_pos, hx2]
    refine ⟨by omega, WideShapes.bytes_inj ?_⟩
    show bs _ = bs _
    unfold sealedW
    rw [bs_cat, hx, he, hq]
  · rw [if_neg hq, if_neg]
    rintro ⟨_, h⟩
    apply hq
    have h2 := congrArg bs h
    unfold sealedW at h2
    rw [bs_cat, hx, he] at h2
    exact (List.append_cancel_left h2).symm

theorem u64_id {n : Nat} (h : n < 18446744073709551616) : IntKind.u64.wrap (n : Int) = (n : Int) := by
  simp [IntKind.wrap, IntKind.bits, IntKind.signed]
  omega

/-- Behind a number: what is whole, short or wrong. -/
def getB (p q v : Nat) (rest : List UInt8) : ByteArray × Int × Int :=
  if rest.length < v + 4 then none3 p 2
  else if (rest.drop v).take 4 = bs (tail4 (sumW (rest.take v))) then (⟨(rest.take v).toArray⟩, ((q + v + 4 : Nat) : Int), 0)
  else none3 p 3

theorem fget_num (s : ByteArray) (p q k v : Nat) (hs : s.size < 4611686018427387904) (hq : q ≤ s.size) (hv : v ≤ 70000) (hk : 70090 ≤ k) :
    frame_Get.j1 (k + 1) s (p : Int) (v : Int) (q : Int) false = some (getB p q v ((bs s).drop q)) := by
  have w1 : wrap64 ((v : Nat) : Int) = ((v : Nat) : Int) := wrap_id (by omega) (by omega)
  have w2 : wrap64 (((q : Nat) : Int) + ((v : Nat) : Int)) = ((q + v : Nat) : Int) := by rw [wrap_id (by omega) (by omega)]; omega
  have w3 : wrap64 (((q + v : Nat) : Int) + 4) = ((q + v + 4 : Nat) : Int) := by rw [wrap_id (by omega) (by omega)]; omega
  have hl : ((bs s).drop q).length = s.size - q := by rw [List.length_drop, bs_len]
  unfold getB
  rw [hl, frame_Get.j1, if_neg (by simp), w1, w2, w3]
  clear w1 w2 w3
  by_cases hsh : s.size - q < v + 4
  · rw [if_pos hsh, if_pos (by omega)]; rfl
  · have n1 : ¬ (((q + v + 4 : Nat) : Int) > (s.size : Int)) := by omega
    have n2 : (0 : Int) ≤ (q : Int) := by omega
    have n3 : (q : Int) ≤ ((q + v + 4 : Nat) : Int) := by omega
    have n4 : ((q + v + 4 : Nat) : Int) ≤ (s.size : Int) := by omega
    rw [if_neg n1, if_neg hsh, if_pos n2, if_pos n3, if_pos n4, Int.toNat_natCast, Int.toNat_natCast]
    clear n1 n2 n3 n4
    have hb : bs (s.extract q (q + v + 4)) = ((bs s).drop q).take v ++ (((bs s).drop q).drop v).take 4 := by
      rw [bs_extract, show q + v + 4 - q = v + 4 by omega, List.take_add]
    have hb4 : ((((bs s).drop q).drop v).take 4).length = 4 := by rw [List.length_take, List.length_drop, hl]; omega
    have hbl : (s.extract q (q + v + 4)).size = v + 4 := by rw [← bs_len, hb, List.length_append, hb4, List.length_take, hl]; omega
    rw [open_told _ _ (by omega) (by omega), open_at _ _ _ hb hb4]
    simp only [Option.bind_some]
    by_cases hq : (((bs s).drop q).drop v).take 4 = bs (tail4 (sumW (((bs s).drop q).take v)))
    · rw [if_pos hq, if_pos rfl, if_pos hq]
    · rw [if_neg hq, if_neg (by simp), if_neg hq]; rfl

set_option maxHeartbeats 4000000 in
theorem fget_told (s : ByteArray) (p k : Nat) (hs : s.size < 4611686018427387904) (hp : p ≤ s.size) (hk : 70100 ≤ k) : frame_Get.f k s (p : Int) = some (getF s p) := by
  obtain ⟨k, rfl⟩ : ∃ m, k = m + 2 := ⟨k - 2, by omega⟩
  have hlen : ((bs s).drop p).length = s.size - p := by rw [List.length_drop, bs_len]
  unfold frame_Get.f
  rw [if_neg (by omega), decide_eq_false (by omega), frame_Get.j0, if_neg (by simp)]
  by_cases hpe : p = s.size
  · rw [if_pos (by omega)]
    subst hpe
    rw [getF_end]
    rfl
  · rw [if_neg (by omega), if_pos (by omega), if_pos (by omega), Int.toNat_natCast]
    have hx := bs_rest s p
    have hxs : (s.extract p s.size).size = s.size - p := by rw [← bs_len, hx, hlen]
    rcases low_or ((bs s).drop p) with hh | ⟨ini, last, rest, hr⟩
    · have he := early_high (s.extract p s.size) (by omega) (by rw [hx]; exact hh) (min 9 (s.size - p)) (k + 1) 0 (by omega) (by omega)
      rw [getF_high hh (by omega)]
      unfold frame_early.f
      rw [show (0 : Int) = ((0 : Nat) : Int) from rfl, he, hxs]
      simp only [Option.bind_some]
      by_cases h9 : s.size - p ≤ 9
      · rw [if_pos (decide_eq_true h9), if_pos h9]; rfl
      · rw [if_neg (by simp [h9]), if_neg h9]
        have hv := vget_high s p hs 10 (by omega) hp (fun j hj => by
          rw [bt_drop s p j (by omega) (by omega)]
          have := hh _ (List.getElem_mem (l := (bs s).drop p) (n := j) (by omega))
          omega) 10 k 0 0 (by omega) (by omega)
        unfold vint_Get.f
        rw [if_neg (by omega), decide_eq_false (by omega), vint_Get.j0, if_neg (by simp)]
        rw [show ((0 : Nat) : Int) = 0 from rfl] at hv
        rw [hv]
        simp only [Option.bind_some]
        rw [if_neg (by decide), frame_Get.j1, if_pos rfl]; rfl
    · have he := early_low (s.extract p s.size) (by omega) ini last rest (by rw [hx]; exact hr) (min 9 ini.length) (k + 1) 0 (by omega) (by omega)
      rw [getF_low hr]
      unfold frame_early.f
      rw [show (0 : Int) = ((0 : Nat) : Int) from rfl, he]
      simp only [Option.bind_some]
      rw [if_neg (by simp)]
      have hlen3 : ini.length + 1 + rest.length = s.size - p := by rw [← hlen, hr.e]; simp; omega
      unfold vint_Get.f getN
      rw [if_neg (by omega), decide_eq_false (by omega), vint_Get.j0, if_neg (by simp)]
      by_cases h9 : ini.length ≤ 9
      · have hv := vget_loop s p hs ini last rest hr h9 ini.length k 0 (by omega) (by omega)
        rw [List.take_zero, show ((dec [] : Nat) : Int) = 0 from rfl, show ((0 : Nat) : Int) = 0 from rfl] at hv
        rw [hv]
        simp only [Option.bind_some]
        by_cases hf : Fine ini last
        · rw [if_pos hf]
          simp only
          rw [if_pos (show (0 : Int) = ((0 : Nat) : Int) from rfl)]
          obtain ⟨v, ev⟩ : ∃ v, v = dec (ini ++ [last]) := ⟨_, rfl⟩
          rw [← ev]
          obtain ⟨q, eq⟩ : ∃ q, q = p + ini.length + 1 := ⟨_, rfl⟩
          rw [← eq]
          have hrest : (bs s).drop q = rest := by
            have e1 : (bs s).drop q = ((bs s).drop p).drop (ini.length + 1) := by rw [List.drop_drop, eq]; congr 1
            rw [e1, hr.e, show ini ++ last :: rest = (ini ++ [last]) ++ rest by simp]
            exact List.drop_left' (by simp)
          have hqs : q ≤ s.size := by omega
          clear hv he ev hlen hx hxs hlen3
          by_cases hbig : 70000 < v
          · rw [decide_eq_true (by omega), frame_Get.j1, if_pos rfl, if_pos (.inr (.inr hbig))]; rfl
          · have hbig2 : ¬ ((v : Int) > 70000) := by omega
            rw [decide_eq_false hbig2, if_neg (fun h => h.elim (fun h => absurd h9 (by omega)) (fun h => h.elim (fun h => h hf) hbig)), fget_num s p q k v hs hqs (by omega) (by omega), hrest]
            unfold getB
            rfl
        · rw [if_neg hf]
          simp only
          rw [if_neg (by decide), frame_Get.j1, if_pos rfl, if_pos (.inr (.inl hf))]; rfl
      · have hv := vget_high s p hs 10 (by omega) hp (fun j hj => by
          rw [bt_drop s p j (by omega) (by omega)]
          have e1 : ((bs s).drop p)[j]'(by omega) = ini[j]'(by omega) := by
            simp only [hr.e]; rw [List.getElem_append_left]
          rw [e1]
          have := hr.hi _ (List.getElem_mem (l := ini) (n := j) (by omega))
          omega) 10 k 0 0 (by omega) (by omega)
        rw [show ((0 : Nat) : Int) = 0 from rfl] at hv
        rw [hv]
        simp only [Option.bind_some]
        rw [if_neg (by decide), frame_Get.j1, if_pos rfl, if_pos (.inl (by omega))]; rfl

end Go.Proofs.YtbanbeaemmlikaaDoor.Px
