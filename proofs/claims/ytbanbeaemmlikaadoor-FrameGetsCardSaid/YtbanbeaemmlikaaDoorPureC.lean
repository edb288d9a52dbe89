/- What is proved: that the statement FrameGets, as a plain function, answers true at every input. No condition. -/
import Derived.Test.YtbanbeaemmlikaaDoorFrameG
import Derived.Test.YtbanbeaemmlikaaDoorPx17
namespace Go.Proofs.YtbanbeaemmlikaaDoor.Px
open Go.RowKit Go.Proofs.YtbanbeaemmlikaaDoorW.PrintWords Go.Proofs.YtbanbeaemmlikaaDoorW.PrintLast Go.Proofs.YtbanbeaemmlikaaDoorW.PrintMore
open Go.Proofs.YtbanbeaemmlikaaDoor.Crc

theorem FrameGets_pure (a0 : ByteArray) (a1 : Int) (_ : (Lit.int .i64 a1).wf = true) : ∃ k, heliographlaw05_FrameGets.f k a0 a1 = some true := by
  obtain ⟨K, hK⟩ : ∃ K, K = 800000 := ⟨_, rfl⟩
  refine ⟨K, ?_⟩
  have hc := cut_size a0 2000
  obtain ⟨s, hs⟩ : ∃ s, s = cut a0 2000 := ⟨_, rfl⟩
  rw [← hs] at hc
  obtain ⟨x, e1, e2⟩ := gets_both s a1 K (by omega) (by omega)
  obtain ⟨out, n, st, e3, e4, e5⟩ := scan_same s (by omega) s.size K 0 [] (by omega) (by omega) (by omega) (by simp; omega)
  unfold heliographlaw05_FrameGets.f
  rw [awake05 _ (by omega), Option.bind_some, show (2000 : Int) = ((2000 : Nat) : Int) from rfl, short05, Option.bind_some, ← hs, e1, Option.bind_some, e2, Option.bind_some]
  unfold frame_Scan.f heliographref05_Scan.f
  rw [show (0 : Int) = ((0 : Nat) : Int) from rfl, e3, Option.bind_some, e4, Option.bind_some]
  dsimp only
  simp only [List.length_nil] at e5
  rw [same_refl K out (by omega) (by omega), Option.bind_some, if_pos rfl, if_pos rfl, if_pos rfl, if_pos rfl, if_pos rfl, if_pos rfl]
  simp

end Go.Proofs.YtbanbeaemmlikaaDoor.Px
