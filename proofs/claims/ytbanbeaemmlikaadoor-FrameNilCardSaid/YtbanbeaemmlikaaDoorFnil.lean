/- What is proved: that FrameNil answers true at every input. Condition: the table is as it was laid. -/
import Derived.Test.YtbanbeaemmlikaaDoorPx11
import Derived.Test.YtbanbeaemmlikaaDoorFrameG
namespace Go.Proofs.YtbanbeaemmlikaaDoor.Px
open Go.RowKit Go.Proofs.YtbanbeaemmlikaaDoorW.PrintWords Go.Proofs.YtbanbeaemmlikaaDoorW.PrintLast
set_option linter.unusedVariables false
set_option maxHeartbeats 8000000 in
set_option maxRecDepth 100000 in
theorem FrameNil_walk (s : ByteArray) (w : World) (hT : TabIn w) (k : Nat) (h1 : heliographlaw05_awake.f k = some true) (h2 : frame_Scanner_Next.f k ⟨#[]⟩ false = some (⟨#[]⟩, false, ⟨#[]⟩, false)) (h3 : frame_Scanner_Feed.f ⟨#[]⟩ false ⟨#[1]⟩ = some (true, ⟨#[1]⟩, false)) :
    Calls Tryd.prog 15 #[.string s] w fun e w' => e = .returned (.bool true) ∧ Below w.heap.size w w' := by
  have hu65 := Tryd.underlying65
  have HTB := Aside0.mk hT
  have H1 := Aside0.mk h1
  have H2 := Aside0.mk h2
  have H3 := Aside0.mk h3
  have H4 := Aside0.mk (show frame_Scanner_Bad.f ⟨#[]⟩ false = some (false, ⟨#[]⟩, false) from rfl)
  have H5 := Aside0.mk (show frame_Scanner_Left.f ⟨#[1]⟩ false = some (1, ⟨#[1]⟩, false) from rfl)
  clear hT h1 h2 h3
  go_enter Tryd.func15, Tryd.ntmps15
  go_wp2_with (first
    | (go_at_call 24; (with_reducible refine (heliographlaw05_awake.calls k true _ HTB.out H1.out).mono ?_); rintro e w0 ⟨rfl, hb⟩; have HB0 := Aside0.mk hb; clear hb)
    | ((with_reducible refine gate_dst (N := 12) rfl ?_); refine box_event ?hg (N := 12) ?hd (cs := #[.string ⟨#[]⟩, .bool false]) (t := 65) ?hr ?_; (case hd => rfl); (case hg => rfl); (case hr => first | (go_simp; done) | (go_simp; rfl)); intro gb hg w1 hbox hb; have HB1 := Aside0.mk (HB0.out.trans (hb.mono HB0.out.size)); have HI1 := Aside0.mk (show IsS65 w w1 gb ⟨#[]⟩ false from ⟨hbox, by rw [hg]; exact HB0.out.size⟩); clear hb hbox hg)
    | (go_at_call 28; (with_reducible refine (frame_Scanner_Next.calls k gb ⟨#[]⟩ false ⟨#[]⟩ false ⟨#[]⟩ false w _ HI1.out HB1.out HTB.out H2.out).mono ?_); rintro e w2 ⟨rfl, hi, hb, hk⟩; have HI2 := Aside0.mk hi; have HB2 := Aside0.mk hb; clear hi hb hk)
    | (go_at_call 31; (with_reducible refine (frame_Scanner_Bad.calls gb ⟨#[]⟩ false false ⟨#[]⟩ false w _ HI2.out HB2.out H4.out).mono ?_); rintro e w3 ⟨rfl, hi, hb, hk⟩; have HI3 := Aside0.mk hi; have HB3 := Aside0.mk hb; clear hi hb hk)
    | (go_at_call 27; (with_reducible refine (frame_Scanner_Feed.calls gb ⟨#[]⟩ false _ true ⟨#[1]⟩ false w _ HI3.out HB3.out H3.out).mono ?_); rintro e w4 ⟨rfl, hi, hb, hk⟩; have HI4 := Aside0.mk hi; have HB4 := Aside0.mk hb; clear hi hb hk)
    | (go_at_call 30; (with_reducible refine (frame_Scanner_Left.calls gb ⟨#[1]⟩ false 1 ⟨#[1]⟩ false w _ HI4.out HB4.out H5.out).mono ?_); rintro e w5 ⟨rfl, hi, hb, hk⟩; have HI5 := Aside0.mk hi; have HB5 := Aside0.mk hb; clear hi hb hk)
    | go_in)
  go_ret
  exact ⟨rfl, HB5.out⟩

theorem FrameNil_all (a0 : ByteArray) (w : World) (hT : TabIn w) : Calls Tryd.prog 15 #[.string a0] w fun e w' => e = .returned (.bool true) ∧ Below w.heap.size w w' := by
  exact FrameNil_walk a0 w hT 60 (awake05 60 (by decide)) (by kernel_rfl) (by kernel_rfl)
end Go.Proofs.YtbanbeaemmlikaaDoor.Px
