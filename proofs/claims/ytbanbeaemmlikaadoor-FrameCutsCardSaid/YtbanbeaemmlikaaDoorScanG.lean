/- What is proved: what a scan of frames comes to: frames one behind the other, cut off, and with a byte turned. No condition but what each theorem says. -/
import Derived.Test.YtbanbeaemmlikaaDoorFrameH
import Derived.Test.YtbanbeaemmlikaaDoorPureG
namespace Go.Proofs.YtbanbeaemmlikaaDoor.Px
open Go.RowKit Go.Proofs.YtbanbeaemmlikaaDoorW.PrintWords Go.Proofs.YtbanbeaemmlikaaDoorW.PrintLast Go.Proofs.YtbanbeaemmlikaaDoorW.PrintMore
open Go.Proofs.YtbanbeaemmlikaaDoor.Crc

def cats (l : List ByteArray) (acc : ByteArray) : ByteArray := l.foldl (fun a b => a ++ frameW b) acc
theorem all_told (k : Nat) (hk : 70100 ≤ k) (l : List ByteArray) : ∀ acc : ByteArray, (∀ x ∈ l, x.size ≤ 70000) → acc.size + 70007 * l.length ≤ 140737488355328 → frame_All.go k l acc = some (cats l acc, 0) := by
  induction l with
  | nil => intro acc _ _; rfl
  | cons b l ih =>
    intro acc hl hs
    have hb := hl b (List.mem_cons_self ..)
    have hv := vb_len b.size hb
    have hz := frameW_size b
    rw [List.length_cons] at hs
    rw [frame_All.go, frame_told k b hb hk, Option.bind_some]
    dsimp only
    rw [if_pos rfl, if_pos (by omega), ih _ (fun x hx => hl x (List.mem_cons_of_mem _ hx)) (by rw [ByteArray.size_append]; omega)]
    rfl
theorem frs_cats (l : List ByteArray) (i : Nat) (hi : i ≤ l.length) : frs l i = cats (l.take i) ⟨#[]⟩ := by
  induction i with
  | zero => rfl
  | succ i ih =>
    have hil : i < l.length := by omega
    rw [frs, ih (by omega), List.take_add_one, List.getElem?_eq_getElem hil, List.getD_eq_getElem?_getD, List.getElem?_eq_getElem hil]
    unfold cats
    rw [List.foldl_append]
    rfl
def ends (l : List ByteArray) (i : Nat) : List Int := (List.range i).map fun j => ((frs l (j + 1)).size : Int)
theorem ends_step (l : List ByteArray) (i : Nat) : ends l (i + 1) = ends l i ++ [((frs l i).size : Int) + ((frameW (l.getD i ByteArray.empty)).size : Int)] := by
  unfold ends
  rw [List.range_succ, List.map_append]
  simp only [List.map_cons, List.map_nil]
  rw [frs, ByteArray.size_append]
  simp
theorem ends_rd (l : List ByteArray) {i j : Nat} (h : j < i) : rd (ends l i) (j : Int) = ((frs l (j + 1)).size : Int) := by
  have : (ends l i).getD j 0 = ((frs l (j + 1)).size : Int) := by
    unfold ends
    rw [List.getD_eq_getElem?_getD, List.getElem?_map, List.getElem?_range h]
    rfl
  rw [← this]
  unfold rd
  rw [Int.toNat_natCast]
theorem ends_len (l : List ByteArray) (i : Nat) : (ends l i).length = i := by unfold ends; simp
theorem frs_succ (l : List ByteArray) (i : Nat) : frs l (i + 1) = frs l i ++ frameW (l.getD i ByteArray.empty) := by rw [frs]
theorem frs_zero (l : List ByteArray) : frs l 0 = ⟨#[]⟩ := by rw [frs]
theorem all_cut (l : List ByteArray) {g : Nat} (hg : g < l.length) : ∃ r, bs (frs l l.length) = bs (frs l g) ++ (bs (frameW (l.getD g ByteArray.empty)) ++ r) := by
  obtain ⟨r, hr⟩ := frs_cut l (g + 1) (l.length - (g + 1))
  rw [show g + 1 + (l.length - (g + 1)) = l.length by omega, frs_succ, bs_cat, List.append_assoc] at hr
  exact ⟨r, hr⟩
theorem place_at (a1 : Int) (h1 : (Lit.int .i64 a1).wf = true) (z : Nat) (hz : 0 < z) :
    ∃ n : Nat, n < z ∧ ((decide (a1 < 0) = true ∧ Int.tmod (wrap64 (-wrap64 (a1 + 1))) (z : Int) = (n : Int)) ∨ (decide (a1 < 0) = false ∧ Int.tmod a1 (z : Int) = (n : Int))) := by
  have hw : -9223372036854775808 ≤ a1 ∧ a1 < 9223372036854775808 := by
    have h : IntKind.i64.min ≤ a1 ∧ a1 ≤ 9223372036854775807 := by simpa [Lit.wf] using h1
    have e1 : IntKind.i64.min = -9223372036854775808 := by decide
    omega
  have go : ∀ m : Nat, ∃ n : Nat, n < z ∧ Int.tmod (m : Int) (z : Int) = (n : Int) := fun m => ⟨m % z, Nat.mod_lt _ hz, by rw [Int.tmod_eq_emod_of_nonneg (by omega)]; omega⟩
  by_cases h : a1 < 0
  · obtain ⟨m, hm⟩ : ∃ m : Nat, wrap64 (-wrap64 (a1 + 1)) = (m : Int) := ⟨(-(a1 + 1)).toNat, by unfold wrap64; omega⟩
    obtain ⟨n, h2, h3⟩ := go m
    exact ⟨n, h2, .inl ⟨decide_eq_true h, by rw [hm]; exact h3⟩⟩
  · obtain ⟨m, rfl⟩ : ∃ m : Nat, a1 = (m : Int) := ⟨a1.toNat, by omega⟩
    obtain ⟨n, h2, h3⟩ := go m
    exact ⟨n, h2, .inr ⟨decide_eq_false h, h3⟩⟩

/-- All that is whole from a place on. -/
def scanF (s : ByteArray) : Nat → Nat → List ByteArray → List ByteArray × Int × Int
  | 0, p, acc => (acc, (p : Int), 1)
  | d + 1, p, acc => if (getF s p).2.2 = 0 then scanF s d (getF s p).2.1.toNat (acc ++ [(getF s p).1]) else (acc, (p : Int), (getF s p).2.2)

theorem scan_told (s : ByteArray) (hs : s.size < 4611686018427387904) (d : Nat) : ∀ (k p : Nat) (acc : List ByteArray), s.size - p ≤ d → p ≤ s.size → d + 70400 ≤ k → acc.length + d < 8796093022208 →
    frame_Scan.l0 k s acc (p : Int) = some (scanF s d p acc) := by
  induction d with
  | zero =>
    intro k p acc hd hp hk ha
    obtain ⟨k, rfl⟩ : ∃ m, k = m + 1 := ⟨k - 1, by omega⟩
    obtain rfl : p = s.size := by omega
    rw [frame_Scan.l0, fget_told s s.size k hs (Nat.le_refl _) (by omega), Option.bind_some, getF_end]
    unfold none3 scanF
    dsimp only
    rw [if_neg (by decide)]
  | succ d ih =>
    intro k p acc hd hp hk ha
    obtain ⟨k, rfl⟩ : ∃ m, k = m + 1 := ⟨k - 1, by omega⟩
    rw [frame_Scan.l0, fget_told s p k hs hp (by omega), Option.bind_some, scanF]
    obtain ⟨⟨b, n, st⟩, hg⟩ : ∃ x, x = getF s p := ⟨_, rfl⟩
    rw [← hg]
    dsimp only
    by_cases h0 : st = 0
    · subst h0
      obtain ⟨p', rfl, h1, h2⟩ := getF_whole s p b n hp hg.symm
      rw [if_pos rfl, if_pos (by omega), if_pos rfl, Int.toNat_natCast]
      exact ih k p' (acc ++ [b]) (by omega) h2 (by omega) (by simp; omega)
    · rw [if_neg h0, if_neg h0]

theorem scan_stop {s : ByteArray} {d p : Nat} {acc : List ByteArray} {b : ByteArray} {n st : Int} (hd : s.size - p ≤ d) (hp : p ≤ s.size) (hg : getF s p = (b, n, st)) (h0 : st ≠ 0) : scanF s d p acc = (acc, (p : Int), st) := by
  cases d with
  | zero =>
    obtain rfl : p = s.size := by omega
    rw [getF_end] at hg
    obtain rfl : st = 1 := (congrArg (fun x => x.2.2) hg).symm
    rfl
  | succ d => rw [scanF, hg, if_neg h0]

theorem scan_step {s : ByteArray} {d p p' : Nat} {acc : List ByteArray} {b : ByteArray} (hd : s.size - p ≤ d) (hp : p ≤ s.size) (hg : getF s p = (b, (p' : Int), 0)) : ∃ d', scanF s d p acc = scanF s d' p' (acc ++ [b]) ∧ s.size - p' ≤ d' ∧ p' ≤ s.size := by
  obtain ⟨q, hq, h1, h2⟩ := getF_whole s p b _ hp hg
  obtain rfl : p' = q := by omega
  obtain ⟨d, rfl⟩ : ∃ m, d = m + 1 := ⟨d - 1, by omega⟩
  exact ⟨d, by rw [scanF, hg, if_pos rfl, Int.toNat_natCast], by omega, h2⟩

/-- The bytes of frames. -/
def fb (l : List ByteArray) : List UInt8 := (l.map fun b => bs (frameW b)).flatten
theorem fb_cons (b : ByteArray) (l : List ByteArray) : fb (b :: l) = bs (frameW b) ++ fb l := by unfold fb; simp
theorem fb_app (l m : List ByteArray) : fb (l ++ m) = fb l ++ fb m := by unfold fb; simp
theorem cats_bs (l : List ByteArray) : ∀ acc, bs (cats l acc) = bs acc ++ fb l := by
  induction l with
  | nil => intro acc; simp [cats, fb]
  | cons b l ih =>
    intro acc
    rw [show cats (b :: l) acc = cats l (acc ++ frameW b) from rfl, ih, bs_cat, fb_cons, List.append_assoc]

theorem scan_frames {s : ByteArray} (l : List ByteArray) : ∀ {d p : Nat} {acc : List ByteArray} {r : List UInt8}, (∀ x ∈ l, x.size ≤ 70000) → s.size - p ≤ d → p ≤ s.size → (bs s).drop p = fb l ++ r →
    ∃ d', scanF s d p acc = scanF s d' (p + (fb l).length) (acc ++ l) ∧ s.size - (p + (fb l).length) ≤ d' ∧ p + (fb l).length ≤ s.size := by
  induction l with
  | nil => intro d p acc r _ hd hp _; exact ⟨d, by simp [fb], by simpa [fb] using hd, by simpa [fb] using hp⟩
  | cons b l ih =>
    intro d p acc r hl hd hp hr
    rw [fb_cons, List.append_assoc] at hr
    have hg := getF_frame s b p (fb l ++ r) (hl b (List.mem_cons_self ..)) hr
    obtain ⟨d1, e1, h1, h2⟩ := scan_step (acc := acc) hd hp hg
    have hr2 : (bs s).drop (p + (frameW b).size) = fb l ++ r := by
      rw [← List.drop_drop, hr, ← bs_len (frameW b), List.drop_left]
    obtain ⟨d2, e2, h3, h4⟩ := ih (acc := acc ++ [b]) (fun x hx => hl x (List.mem_cons_of_mem _ hx)) h1 h2 hr2
    have e3 : p + (frameW b).size + (fb l).length = p + (fb (b :: l)).length := by rw [fb_cons, List.length_append, bs_len]; omega
    rw [e3] at e2 h3 h4
    exact ⟨d2, by rw [e1, e2]; simp, h3, h4⟩

theorem getF_shift {s t : ByteArray} {p q : Nat} (hp : p ≤ s.size) (hq : q ≤ t.size) (h : (bs s).drop p = (bs t).drop q) {b : ByteArray} {n st : Int} (hg : getF t q = (b, n, st)) : getF s p = (b, n + (p : Int) - (q : Int), st) := by
  have hls : ((bs s).drop p).length = s.size - p := by rw [List.length_drop, bs_len]
  have hlt : ((bs t).drop q).length = t.size - q := by rw [List.length_drop, bs_len]
  have hn : ∀ v : Int, none3 q v = (b, n, st) → none3 p v = (b, n + (p : Int) - (q : Int), st) := by
    intro v e
    unfold none3 at e ⊢
    simp only [Prod.mk.injEq] at e ⊢
    exact ⟨e.1, by omega, e.2.2⟩
  rcases low_or ((bs t).drop q) with hh | ⟨ini, last, rest, hr⟩
  · by_cases hqe : q = t.size
    · have hpe : p = s.size := by rw [h, hlt] at hls; omega
      subst hqe
      subst hpe
      rw [getF_end] at hg ⊢
      exact hn _ hg
    · rw [getF_high hh (by omega)] at hg
      have hx : s.size - p = t.size - q := by rw [← hls, h, hlt]
      rw [getF_high (by rw [h]; exact hh) (by omega), hx]
      split at hg
      · rename_i h9; rw [if_pos h9]; exact hn _ hg
      · rename_i h9; rw [if_neg h9]; exact hn _ hg
  · rw [getF_low hr] at hg
    rw [getF_low (by rw [h]; exact hr)]
    unfold getN at hg ⊢
    split at hg
    · rename_i h1; rw [if_pos h1]; exact hn _ hg
    · rename_i h1
      rw [if_neg h1]
      split at hg
      · rename_i h2; rw [if_pos h2]; exact hn _ hg
      · rename_i h2
        rw [if_neg h2]
        split at hg
        · rename_i h3
          rw [if_pos h3]
          simp only [Prod.mk.injEq] at hg ⊢
          exact ⟨hg.1, by omega, hg.2.2⟩
        · rename_i h3; rw [if_neg h3]; exact hn _ hg

/-- A scan behind other bytes is that of what stands there. -/
theorem scan_shift {s t : ByteArray} {c : Nat} (l : List ByteArray) (hs : s.size = c + t.size) (h : ∀ q, q ≤ t.size → (bs s).drop (c + q) = (bs t).drop q) (d : Nat) : ∀ (q : Nat) (acc : List ByteArray), q ≤ t.size → t.size - q ≤ d →
    scanF s d (c + q) (l ++ acc) = (l ++ (scanF t d q acc).1, (c : Int) + (scanF t d q acc).2.1, (scanF t d q acc).2.2) := by
  induction d with
  | zero =>
    intro q acc hq hd
    unfold scanF
    simp
  | succ d ih =>
    intro q acc hq hd
    obtain ⟨⟨b, n, st⟩, hg⟩ : ∃ x, x = getF t q := ⟨_, rfl⟩
    have hg2 := getF_shift (by omega) hq (h q hq) hg.symm
    rw [scanF, scanF, hg2, ← hg]
    dsimp only
    by_cases h0 : st = 0
    · subst h0
      obtain ⟨q', rfl, h1, h2⟩ := getF_whole t q b n hq hg.symm
      rw [if_pos rfl, if_pos rfl, Int.toNat_natCast, show ((q' : Int) + ((c + q : Nat) : Int) - (q : Int)).toNat = c + q' by omega, List.append_assoc]
      exact ih q' (acc ++ [b]) h2 (by omega)
    · rw [if_neg h0, if_neg h0]
      dsimp only
      simp

theorem getF_short (s b : ByteArray) (p : Nat) (x r : List UInt8) (hb : b.size ≤ 70000) (hp : p ≤ s.size) (hx : 1 ≤ x.length) (hr : 1 ≤ r.length) (h : (bs s).drop p = x) (h2 : x ++ r = bs (frameW b)) : getF s p = none3 p 2 := by
  have hm : bs (⟨x.toArray⟩ : ByteArray) = x := bs_mk x
  obtain ⟨st, e, h0, h3⟩ := getF_part ⟨x.toArray⟩ b r hb hr (by rw [hm]; exact h2)
  have e2 := getF_shift (s := s) (t := ⟨x.toArray⟩) hp (Nat.zero_le _) (by rw [h, hm, List.drop_zero]) e
  rw [e2]
  have hst : st = 2 := by
    have e4 := e
    rcases low_or ((bs (⟨x.toArray⟩ : ByteArray)).drop 0) with hh | ⟨ini, last, rest, hl⟩
    · rw [getF_high hh (by rw [← bs_len, hm]; omega)] at e4
      split at e4
      · exact (congrArg (fun x => x.2.2) e4).symm
      · exact absurd (congrArg (fun x => x.2.2) e4).symm h3
    · rw [getF_low hl] at e4
      unfold getN at e4
      split at e4
      · exact absurd (congrArg (fun x => x.2.2) e4).symm h3
      · split at e4
        · exact (congrArg (fun x => x.2.2) e4).symm
        · split at e4
          · exact absurd (congrArg (fun x => x.2.2) e4).symm h0
          · exact absurd (congrArg (fun x => x.2.2) e4).symm h3
  rw [hst]
  unfold none3
  simp

theorem getF_wrong (s b : ByteArray) (p n : Nat) (y : UInt8) (r : List UInt8) (hb : b.size ≤ 100) (hn : n < (bs b ++ bs (tail4 (sumW (bs b)))).length) (hy : y ≠ (bs b ++ bs (tail4 (sumW (bs b))))[n])
    (h : (bs s).drop p = vb b.size ++ ((bs b ++ bs (tail4 (sumW (bs b)))).set n y ++ r)) : getF s p = none3 p 3 := by
  obtain ⟨l', r', e1, e2, e3, e4⟩ := turned_sum (bs b) n y hn hy
  rw [e1, vb_lo (by omega), List.append_assoc] at h
  have hlow : Low ((bs s).drop p) [] (UInt8.ofNat b.size) (l' ++ (r' ++ r)) := ⟨by rw [h]; rfl, fun x hx => (by cases hx), by rw [ofNat_toNat (by omega)]; omega⟩
  have hd : dec ([] ++ [UInt8.ofNat b.size]) = b.size := by simp only [List.nil_append, dec, ofNat_toNat (show b.size < 256 by omega)]; omega
  rw [getF_low hlow]
  unfold getN
  have hl : l'.length = b.size := by rw [e2, bs_len]
  rw [hd]
  split
  · rfl
  · rw [if_neg (by rw [List.length_append, List.length_append]; omega), ← hl, List.drop_left, List.take_left, ← e3, List.take_left, if_neg e4]

end Go.Proofs.YtbanbeaemmlikaaDoor.Px
