/- What is proved: the rest of FrameCuts, from '[]byte(all)' on, as a plain function: it answers true, or nothing. No condition. -/
import Derived.Test.YtbanbeaemmlikaaDoorPx9
import Derived.Test.YtbanbeaemmlikaaDoorPx16
import Derived.Test.YtbanbeaemmlikaaDoorTurn
namespace Go.Proofs.YtbanbeaemmlikaaDoor.Px
open Go.RowKit Go.Proofs.YtbanbeaemmlikaaDoorW.PrintWords Go.Proofs.YtbanbeaemmlikaaDoorW.PrintLast Go.Proofs.YtbanbeaemmlikaaDoorW.PrintMore

def FrameCutsRest.end_ (t : Bool) (p q st : Int) : Option Bool := if t = true ∧ p = q ∧ st = 3 then some true else none
def FrameCutsRest.at_ (k : Nat) (all : ByteArray) (n : Int) (x : Int) (wh : Int) (m : List ByteArray) (starts : List Int) : Option Bool :=
  if 0 ≤ x ∧ x < 256 then (frame_Scan.f k (turnAt all n.toNat x)).bind fun y => (heliographlaw05_same.f k y.1 (m.take wh.toNat)).bind fun t => FrameCutsRest.end_ t y.2.1 (rd starts wh) y.2.2 else none
def FrameCutsRest.f (k : Nat) (all : ByteArray) (n turn wh : Int) (m : List ByteArray) (starts : List Int) (up : Bool) : Option Bool :=
  if 0 ≤ n ∧ n < (all.size : Int) ∧ 0 ≤ wh ∧ wh < (starts.length : Int) ∧ wh ≤ (m.length : Int) ∧ up = true then FrameCutsRest.at_ k all n (Go.bits .xor .u8 (bt all n) turn) wh m starts else none
theorem FrameCutsRest.mono : ∀ (a0 : ByteArray) (a1 a2 a3 : Int) (a4 : List ByteArray) (a5 : List Int) (a6 : Bool) (k : Nat), LeO (FrameCutsRest.f k a0 a1 a2 a3 a4 a5 a6) (FrameCutsRest.f (k + 1) a0 a1 a2 a3 a4 a5 a6) := fun _ _ _ _ _ _ _ k =>
  LeO.ite (LeO.ite (LeO.bind (frame_Scan.mono _ k) fun _ => LeO.bind (heliographlaw05_same.mono _ _ k) fun _ => LeO.refl _) (LeO.none _)) (LeO.none _)
theorem FrameCutsRest.inv {k : Nat} {all : ByteArray} {i turn j : Int} {m : List ByteArray} {starts : List Int} {up r : Bool} (h : FrameCutsRest.f k all i turn j m starts up = some r) :
    r = true ∧ up = true ∧ ∃ n wh : Nat, i = (n : Int) ∧ j = (wh : Int) ∧ n < all.size ∧ wh < starts.length ∧ wh ≤ m.length ∧
      ∃ x : Int, Go.bits .xor .u8 (bt all (n : Int)) turn = x ∧ 0 ≤ x ∧ x < 256 ∧ ∃ l, frame_Scan.f k (turnAt all n x) = some (l, rd starts (wh : Int), 3) ∧ heliographlaw05_same.f k l (m.take wh) = some true := by
  unfold FrameCutsRest.f at h
  split at h
  · rename_i c
    obtain ⟨c1, c2, c3, c4, c5, rfl⟩ := c
    obtain ⟨n, rfl⟩ : ∃ n : Nat, i = (n : Int) := ⟨i.toNat, by omega⟩
    obtain ⟨wh, rfl⟩ : ∃ n : Nat, j = (n : Int) := ⟨j.toNat, by omega⟩
    unfold FrameCutsRest.at_ at h
    split at h
    · rename_i c
      rw [Int.toNat_natCast, Int.toNat_natCast] at h
      obtain ⟨⟨l, p, st⟩, e1, h2⟩ := Option.bind_eq_some_iff.1 h
      obtain ⟨t, e2, h3⟩ := Option.bind_eq_some_iff.1 h2
      unfold FrameCutsRest.end_ at h3
      dsimp only at h3 e2
      split at h3
      · rename_i c6
        obtain ⟨rfl, rfl, rfl⟩ := c6
        exact ⟨(Option.some.inj h3).symm, rfl, n, wh, rfl, rfl, by omega, by omega, by omega, _, rfl, c.1, c.2, l, e1, e2⟩
      · cases h3
    · cases h
  · cases h
end Go.Proofs.YtbanbeaemmlikaaDoor.Px
