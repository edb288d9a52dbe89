/- What is proved: that the statement FramePlays, as a plain function, answers true at every input. No condition. -/
import Derived.Test.YtbanbeaemmlikaaDoorFrameG
import Derived.Test.YtbanbeaemmlikaaDoorPx12
namespace Go.Proofs.YtbanbeaemmlikaaDoor.Px
open Go.RowKit Go.Proofs.YtbanbeaemmlikaaDoorW.PrintWords Go.Proofs.YtbanbeaemmlikaaDoorW.PrintLast Go.Proofs.YtbanbeaemmlikaaDoorW.PrintMore
open Go.Proofs.YtbanbeaemmlikaaDoor.Crc

theorem e_nil : (⟨#[]⟩ : ByteArray).toList = ([] : List UInt8) := by rw [ByteArray.toList_eq]

/-- What taking a body comes to, of a scanner that is not bad. -/
theorem next_whole (k : Nat) (s b : ByteArray) (p' : Nat) (hs : s.size < 4611686018427387904) (hk : 70100 ≤ k) (hg : getF s 0 = (b, (p' : Int), 0)) (hp : p' ≤ s.size) :
    frame_Scanner_Next.f k s false = some (b, true, s.extract p' s.size, false) := by
  have e := fget_told s 0 k hs (Nat.zero_le _) hk
  rw [show ((0 : Nat) : Int) = 0 from rfl, hg] at e
  unfold frame_Scanner_Next.f frame_Scanner_Bad.f
  rw [Option.bind_some]
  dsimp only
  rw [if_neg (by simp), e, Option.bind_some]
  dsimp only
  rw [if_pos rfl, if_pos (by omega), if_pos (by omega), Int.toNat_natCast]
theorem next_wrong (k : Nat) (s b : ByteArray) (n : Int) (hs : s.size < 4611686018427387904) (hk : 70100 ≤ k) (hg : getF s 0 = (b, n, 3)) :
    frame_Scanner_Next.f k s false = some (⟨#[]⟩, false, ⟨#[]⟩, true) := by
  have e := fget_told s 0 k hs (Nat.zero_le _) hk
  rw [show ((0 : Nat) : Int) = 0 from rfl, hg] at e
  unfold frame_Scanner_Next.f frame_Scanner_Bad.f
  rw [Option.bind_some]
  dsimp only
  rw [if_neg (by simp), e, Option.bind_some]
  dsimp only
  rw [if_neg (by decide), if_pos rfl]
theorem next_other (k : Nat) (s b : ByteArray) (n st : Int) (hs : s.size < 4611686018427387904) (hk : 70100 ≤ k) (hg : getF s 0 = (b, n, st)) (h0 : st ≠ 0) (h3 : st ≠ 3) :
    frame_Scanner_Next.f k s false = some (⟨#[]⟩, false, s, false) := by
  have e := fget_told s 0 k hs (Nat.zero_le _) hk
  rw [show ((0 : Nat) : Int) = 0 from rfl, hg] at e
  unfold frame_Scanner_Next.f frame_Scanner_Bad.f
  rw [Option.bind_some]
  dsimp only
  rw [if_neg (by simp), e, Option.bind_some]
  dsimp only
  rw [if_neg h0, if_neg h3]
theorem next_bad (k : Nat) : frame_Scanner_Next.f k ⟨#[]⟩ true = some (⟨#[]⟩, false, ⟨#[]⟩, true) := by
  unfold frame_Scanner_Next.f frame_Scanner_Bad.f
  rw [Option.bind_some]
  dsimp only
  rw [if_pos rfl]

section
variable (l : List ByteArray) (t : List Int)

/-- Where a round's takes are done: the rest of the law. -/
def Good (k : Nat) (i : Nat) (left : ByteArray) (bad : Bool) : Prop :=
  heliographlaw05_FramePlays.l0 k l t true left bad (i : Int) left bad = some true

theorem takes_loop (i n K1 : Nat) (hi : i < 40) (hn : n ≤ 3) (hK : 700400 ≤ K1) (d : Nat) : ∀ (k j : Nat) (left : ByteArray) (bad : Bool), j + d = n → K1 + 4 * d + 1 ≤ k → left.size ≤ 16000 → (bad = true → left = ⟨#[]⟩) →
    (∀ k' left' bad', K1 ≤ k' → left'.size ≤ left.size → (bad' = true → left' = ⟨#[]⟩) → Good l t k' (i + 1) left' bad') →
    heliographlaw05_FramePlays.l1 k l t true left bad (i : Int) (n : Int) (j : Int) left bad = some true := by
  induction d with
  | zero =>
    intro k j left bad hj hk hsz hbad hgo
    obtain ⟨k, rfl⟩ : ∃ m, k = m + 1 := ⟨k - 1, by omega⟩
    have n1 : ¬ ((j : Int) < (n : Int)) := by omega
    rw [heliographlaw05_FramePlays.l1, if_neg n1]
    unfold frame_Scanner_Left.f frame_Scanner_Bad.f
    rw [Option.bind_some]
    dsimp only
    rw [if_pos rfl, Option.bind_some]
    dsimp only
    rw [if_neg (by simp), wrap_succ (by omega) (by omega), show ((i : Int) + 1) = ((i + 1 : Nat) : Int) by omega]
    exact hgo k left bad (by omega) (Nat.le_refl _) hbad
  | succ d ih =>
    intro k j left bad hj hk hsz hbad hgo
    obtain ⟨k, rfl⟩ : ∃ m, k = m + 4 := ⟨k - 4, by omega⟩
    have n1 : ((j : Int) < (n : Int)) := by omega
    have ew : wrap64 ((j : Int) + 1) = ((j + 1 : Nat) : Int) := by rw [wrap_succ (by omega) (by omega)]; omega
    have hrest : ∀ left' bad', left'.size ≤ left.size → (bad' = true → left' = ⟨#[]⟩) → heliographlaw05_FramePlays.l1 k l t true left' bad' (i : Int) (n : Int) ((j + 1 : Nat) : Int) left' bad' = some true := by
      intro left' bad' h1 h2
      exact ih k (j + 1) left' bad' (by omega) (by omega) (by omega) h2 (fun k' l2 b2 h3 h4 h5 => hgo k' l2 b2 h3 (by omega) h5)
    have hr := rfget_told left 0 (k + 3) (by omega) (Nat.zero_le _) (by omega)
    rw [show ((0 : Nat) : Int) = 0 from rfl] at hr
    rw [heliographlaw05_FramePlays.l1, if_pos n1, hr]
    have hsame := hrest left bad (Nat.le_refl _) hbad
    cases bad with
    | true =>
      have e0 := hbad rfl
      subst e0
      have eg : getF ⟨#[]⟩ 0 = (⟨#[]⟩, 0, 1) := by decide
      rw [next_bad, Option.bind_some, Option.bind_some, eg]
      dsimp only
      rw [if_neg (by decide), heliographlaw05_FramePlays.j5, if_neg (by simp), heliographlaw05_FramePlays.j6, if_neg (by decide), heliographlaw05_FramePlays.j7, if_neg (by simp), if_neg (by simp), if_neg (by simp), if_pos e_nil, ew]
      exact hsame
    | false =>
      obtain ⟨⟨b, m, st⟩, hg⟩ : ∃ x, x = getF left 0 := ⟨_, rfl⟩
      rw [← hg]
      by_cases h0 : st = 0
      · subst h0
        obtain ⟨p', rfl, h1, h2⟩ := getF_whole left 0 b m (Nat.zero_le _) hg.symm
        rw [next_whole (k + 3) left b p' (by omega) (by omega) hg.symm h2, Option.bind_some, Option.bind_some]
        dsimp only
        have n2 : (0 : Int) ≤ (p' : Int) := by omega
        have n3 : (p' : Int) ≤ (left.size : Int) := by omega
        rw [if_pos rfl, heliographlaw05_FramePlays.j5, if_pos (by rfl), if_pos n2, if_pos n3, Int.toNat_natCast, heliographlaw05_FramePlays.j6, if_neg (by decide), heliographlaw05_FramePlays.j7, if_neg (by simp), if_neg (by simp), if_pos (by rfl), if_pos rfl, ew]
        exact hrest _ _ (by rw [ByteArray.size_extract]; omega) (fun h => by cases h)
      · by_cases h3 : st = 3
        · subst h3
          rw [next_wrong (k + 3) left b m (by omega) (by omega) hg.symm, Option.bind_some, Option.bind_some]
          dsimp only
          rw [if_neg (by decide), heliographlaw05_FramePlays.j5, if_neg (by simp), heliographlaw05_FramePlays.j6, if_pos rfl, heliographlaw05_FramePlays.j7, if_pos (by rfl), if_neg (by simp), if_neg (by simp), if_pos e_nil, ew]
          exact hrest _ _ (Nat.zero_le _) (fun _ => rfl)
        · rw [next_other (k + 3) left b m st (by omega) (by omega) hg.symm h0 h3, Option.bind_some, Option.bind_some]
          dsimp only
          rw [if_neg h0, heliographlaw05_FramePlays.j5, if_neg (by simp), heliographlaw05_FramePlays.j6, if_neg h3, heliographlaw05_FramePlays.j7, if_neg (by simp), if_neg (by simp), if_neg (by simp), if_pos e_nil, ew]
          exact hsame

theorem and3 (x : Int) : ∃ n : Nat, n ≤ 3 ∧ Go.bits .and .i64 x 3 = (n : Int) := by
  have h : Go.bits .and .i64 x 3 = IntKind.i64.wrap ((BitVec.ofInt 64 x &&& BitVec.ofInt 64 3).toNat : Int) := rfl
  have h3 : (BitVec.ofInt 64 x &&& BitVec.ofInt 64 3).toNat ≤ 3 := by
    rw [BitVec.toNat_and]
    exact Nat.and_le_right
  refine ⟨(BitVec.ofInt 64 x &&& BitVec.ofInt 64 3).toNat, h3, ?_⟩
  rw [h, IntKind.wrap_i64]
  omega

theorem plays_loop (d : Nat) : ∀ (k i : Nat) (left : ByteArray) (bad : Bool), i + d = 40 → 700400 + 20 * (d + 1) ≤ k → left.size ≤ 400 * i → (bad = true → left = ⟨#[]⟩) → Good l t k i left bad := by
  induction d with
  | zero =>
    intro k i left bad hi hk hsz hbad
    obtain ⟨k, rfl⟩ : ∃ m, k = m + 2 := ⟨k - 2, by omega⟩
    unfold Good
    have hf : heliographlaw05_FramePlays.j1 (k + 1) l t true left bad (i : Int) false left bad = some true := by
      rw [heliographlaw05_FramePlays.j1, if_neg (by simp)]
    rw [heliographlaw05_FramePlays.l0]
    by_cases h : (i : Int) < (l.length : Int)
    · rw [if_pos h, decide_eq_false (by omega)]; exact hf
    · rw [if_neg h]; exact hf
  | succ d ih =>
    intro k i left bad hi hk hsz hbad
    obtain ⟨k, rfl⟩ : ∃ m, k = m + 4 := ⟨k - 4, by omega⟩
    unfold Good
    rw [heliographlaw05_FramePlays.l0]
    by_cases h : (i : Int) < (l.length : Int)
    · have n1 : (i : Int) < 40 := by omega
      have n2 : (0 : Int) ≤ (i : Int) := by omega
      rw [if_pos h, decide_eq_true n1, heliographlaw05_FramePlays.j1, if_pos rfl, if_pos n2, if_pos h, show (400 : Int) = ((400 : Nat) : Int) from rfl, short05, Option.bind_some]
      obtain ⟨s, es⟩ : ∃ s, s = cut (rdOf ByteArray.empty l (i : Int)) 400 := ⟨_, rfl⟩
      have hs4 : s.size ≤ 400 := by rw [es]; exact cut_size _ _
      rw [← es]
      have takes : ∀ left' bad', left'.size ≤ 400 * (i + 1) → (bad' = true → left' = ⟨#[]⟩) → heliographlaw05_FramePlays.j2 (k + 2) l t true left' bad' (i : Int) left' bad' = some true := by
        intro left' bad' h1 h2
        have go : ∀ n : Nat, n ≤ 3 → heliographlaw05_FramePlays.j3 (k + 1) l t true left' bad' (i : Int) (n : Int) left' bad' = some true := by
          intro n hn
          rw [heliographlaw05_FramePlays.j3]
          refine takes_loop l t i n (700400 + 20 * (d + 1)) (by omega) hn (by omega) n k 0 left' bad' (by omega) (by omega) (by omega) h2 (fun k' l2 b2 h3 h4 h5 => ?_)
          exact ih k' (i + 1) l2 b2 (by omega) h3 (by omega) h5
        rw [heliographlaw05_FramePlays.j2]
        by_cases ht : (i : Int) < (t.length : Int)
        · obtain ⟨n, hn, en⟩ := and3 (rd t (i : Int))
          rw [if_pos ht, if_pos n2, en]
          exact go n hn
        · rw [if_neg ht]
          exact go 1 (by omega)
      unfold frame_Scanner_Feed.f frame_Scanner_Bad.f
      rw [Option.bind_some]
      dsimp only
      cases bad with
      | true =>
        have e0 := hbad rfl
        subst e0
        rw [if_pos rfl, Option.bind_some]
        dsimp only
        rw [if_neg (by simp), if_pos rfl]
        exact takes _ _ (Nat.zero_le _) (fun _ => rfl)
      | false =>
        rw [if_neg (by simp), if_pos (by omega), Option.bind_some]
        dsimp only
        rw [if_neg (by simp), if_neg (by simp), if_pos (by omega)]
        exact takes _ _ (by rw [ByteArray.size_append]; omega) (fun h => by cases h)
    · rw [if_neg h, heliographlaw05_FramePlays.j1, if_neg (by simp)]

theorem FramePlays_pure : ∃ k, heliographlaw05_FramePlays.f k l t = some true := by
  obtain ⟨K, hK⟩ : ∃ K, K = 800000 := ⟨_, rfl⟩
  refine ⟨K, ?_⟩
  have h := plays_loop l t 40 K 0 ⟨#[]⟩ false (by omega) (by omega) (Nat.zero_le _) (fun h => by cases h)
  unfold Good at h
  unfold heliographlaw05_FramePlays.f frame_New.f
  rw [awake05 _ (by omega), Option.bind_some, Option.bind_some]
  exact h
end

end Go.Proofs.YtbanbeaemmlikaaDoor.Px
