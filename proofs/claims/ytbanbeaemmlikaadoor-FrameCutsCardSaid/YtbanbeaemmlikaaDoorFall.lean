/- What is proved: that package frame's All comes to the frames of the bodies, one behind the other, or to the first error. Condition: the text stays below 2^47 bytes. -/
import Derived.Test.YtbanbeaemmlikaaDoorPx7
import Derived.Test.YtbanbeaemmlikaaDoorShelf
import Derived.Lib.Builder
import Derived.Lib.AppendStr
namespace Go.Proofs.YtbanbeaemmlikaaDoor.Px
open Go.RowKit Go.Proofs.YtbanbeaemmlikaaDoorW.PrintWords Go.Proofs.YtbanbeaemmlikaaDoorW.PrintLast

theorem info73b : (Tryd.prog.info? 73).map (·.size) = some 2 := by kernel_rfl

set_option maxHeartbeats 1000000 in
set_option maxRecDepth 100000 in
theorem copyCheck_used (b : Nat) (w : World) (h0 : w.cell? ⟨b, 0, none⟩ = some (.pointer (some ⟨b, 0, none⟩))) :
    Calls Tryd.prog 54 #[.pointer (some ⟨b, 0, none⟩)] w fun e w' => e = .returned (.tuple #[]) ∧ w = w' := by
  obtain ⟨j, hj, _⟩ := Option.map_eq_some_iff.1 info73b
  go_enter Tryd.func54, Tryd.ntmps54
  go_wp2
  rw [Lib.run_neq_ptr_same w _ Tryd.underlying71 hj]
  go_wp2
  go_end0
  exact ⟨rfl, rfl⟩

set_option maxHeartbeats 1000000 in
set_option maxRecDepth 100000 in
theorem copyCheck_fresh (b : Nat) (w : World) (h0 : w.cell? ⟨b, 0, none⟩ = some (.pointer none)) (hsh : w.shape? b = some (73, 2)) (hfz : w.frozen? ⟨b, 0, none⟩ = false) :
    Calls Tryd.prog 54 #[.pointer (some ⟨b, 0, none⟩)] w fun e w' => e = .returned (.tuple #[]) ∧ w' = w.setCell ⟨b, 0, none⟩ (.pointer (some ⟨b, 0, none⟩)) := by
  obtain ⟨j, hj, hjs⟩ := Option.map_eq_some_iff.1 info73b
  go_enter Tryd.func54, Tryd.ntmps54
  go_wp2
  rw [Lib.run_to_unsafe w ⟨b, 0, none⟩ Tryd.underlying71 Tryd.underlying82 hj (by rw [hjs]; decide) hsh (Nat.zero_lt_succ 1)]
  simp only [Result.andThen]
  rw [Oper.upon_value]
  go_wp2
  rw [run_callFunc_extern Tryd.func55 (by kernel_rfl) (by kernel_rfl) (by kernel_rfl) (e := Extern.AbiNoEscape.same) (by kernel_rfl)]
  rw [Lib.run_noEscape]
  simp only [Result.andThen]
  rw [Oper.upon_value]
  go_wp2
  rw [Lib.run_from_unsafe w ⟨b, 0, none⟩ Tryd.underlying82 Tryd.underlying71 hj hsh Tryd.Builder_Extra_169.liesBuilder]
  simp only [Result.andThen]
  rw [Oper.upon_value]
  go_wp2
  go_end0
  exact ⟨rfl, rfl⟩

theorem copyCheck_any (B b : Nat) (bs : List Value) (w : World) (h : Lib.IsBuilder 73 5 B b bs w) :
    Calls Tryd.prog 54 #[.pointer (some ⟨b, 0, none⟩)] w fun e w' => e = .returned (.tuple #[]) ∧ (Lib.BuilderAt 73 5 B b (.pointer (some ⟨b, 0, none⟩)) bs w' ∧ Below B w w') := by
  rcases h with h | h
  · refine (copyCheck_fresh b w h.cell0 h.shape h.frozen0).mono ?_
    rintro e w' ⟨rfl, rfl⟩
    exact ⟨rfl, h.used _, (Below.refl B w).setCell (p := ⟨b, 0, none⟩) h.1 _⟩
  · refine (copyCheck_used b w h.cell0).mono ?_
    rintro e w' ⟨rfl, rfl⟩
    exact ⟨rfl, h, Below.refl B _⟩

set_option maxHeartbeats 2000000 in
set_option maxRecDepth 100000 in
theorem writeString_any (B b : Nat) (bs : List Value) (s : ByteArray) (w : World) (h : Lib.IsBuilder 73 5 B b bs w) (hlen : bs.length + s.size ≤ 140737488355328) (hBw : B ≤ w.heap.size) :
    Calls Tryd.prog 50 #[.pointer (some ⟨b, 0, none⟩), .string s] w fun e w' => e = .returned (.tuple #[.int .i64 s.size, .nilIface]) ∧ (Lib.BuilderAt 73 5 B b (.pointer (some ⟨b, 0, none⟩)) (bs ++ Lib.strCells s) w' ∧ Below B w w') := by
  obtain ⟨i0, hi, hz0, hz1, hz2⟩ := info_parts info5
  go_enter Tryd.func50, Tryd.ntmps50
  go_wp2_with (go_at_call 54; refine (copyCheck_any B b bs _ h).mono ?_)
  rintro e w1 ⟨rfl, h1, hb1⟩
  obtain ⟨hB, v, hbk, hown, hne⟩ := h1
  have c0 : w1.cell? ⟨b, 0, none⟩ = some (.pointer (some ⟨b, 0, none⟩)) := by rw [Lib.cell_of_heap hbk]; rfl
  have c1 : w1.cell? ⟨b, 1, none⟩ = some v := by rw [Lib.cell_of_heap hbk]; rfl
  go_wp2_with (at_builtin; refine Lib.wpList_append_own_string _ rfl _ _ 32 9 rfl B 5 i0 Tryd.underlying32 Tryd.underlying9 hi hz0 hz1 hz2 _ _ _ rfl hown s rfl ?c3 ?c4 ?c5 ?_)
  case c3 => unfold maxLen; omega
  case c4 => omega
  case c5 => have := hb1.size; omega
  intro v' w2 hown' hgrow _
  have hlt : b < w1.heap.size := by
    rcases Nat.lt_or_ge b w1.heap.size with h' | h'
    · exact h'
    · simp [Array.getElem?_eq_none h'] at hbk
  have hb2 : w2.heap[b]? = some (.cells #[.pointer (some ⟨b, 0, none⟩), v] 73 (0, 0)) := by
    rw [hgrow.block b hlt (fun e => hne e.symm)]
    exact hbk
  have d0 : w2.cell? ⟨b, 0, none⟩ = some (.pointer (some ⟨b, 0, none⟩)) := by rw [Lib.cell_of_heap hb2]; rfl
  have d1 : w2.cell? ⟨b, 1, none⟩ = some v := by rw [Lib.cell_of_heap hb2]; rfl
  have f1 : w2.frozen? ⟨b, 1, none⟩ = false := Lib.frozen_of_heap hb2 1
  obtain ⟨ao, n', cap, rfl⟩ : ∃ ao n' cap, v' = .slice ao n' cap := by
    rcases hown'.2 with ⟨hv, _⟩ | ⟨g, cap, cur, hv, _⟩
    · exact ⟨_, _, _, hv⟩
    · exact ⟨_, _, _, hv⟩
  go_wp2
  go_ret2
  refine ⟨rfl, ?_, ?_⟩
  · exact Lib.BuilderAt.put (T := 73) (e := 5) hB hb2 (bs' := bs ++ Lib.strCells s) (by simpa [Lib.strCells_length] using hown') (by decide)
  · exact (hb1.grown hgrow (by have := hb1.size; omega) (fun k hk => (hown.lt k hk).1)).setCell (p := ⟨b, 1, none⟩) hB _

theorem builder_below {T e B b : Nat} {p : Value} {bs : List Value} {w w' : World} (h : Lib.BuilderAt T e B b p bs w) (hb : Below w.heap.size w w') : Lib.BuilderAt T e B b p bs w' := by
  have hlt := h.lt
  obtain ⟨hB, v, hbk, hown, hne⟩ := h
  refine ⟨hB, v, (hb.block b hlt).trans hbk, ⟨hown.1, ?_⟩, hne⟩
  rcases hown.2 with h1 | ⟨g, cap, cur, e1, e2, e3, r⟩
  · exact .inl h1
  · have hg : g < w.heap.size := by
      rcases Nat.lt_or_ge g w.heap.size with h' | h'
      · exact h'
      · simp [Array.getElem?_eq_none h'] at e3
    exact .inr ⟨g, cap, cur, e1, e2, (hb.block g hg).trans e3, r⟩

theorem isBuilder_below {T e B b : Nat} {bs : List Value} {w w' : World} (h : Lib.IsBuilder T e B b bs w) (hb : Below w.heap.size w w') : Lib.IsBuilder T e B b bs w' :=
  h.imp (fun x => builder_below x hb) (fun x => builder_below x hb)

/-- The frames of bodies behind a text. -/
def frame_All.go (k : Nat) : List ByteArray → ByteArray → Option (ByteArray × Int)
  | [], acc => some (acc, 0)
  | b :: l, acc => (frame_Put.f k b).bind fun t => if t.2 = 0 then (if acc.size + t.1.size ≤ 140737488355328 then frame_All.go k l (acc ++ t.1) else none) else some (⟨#[]⟩, t.2)
def frame_All.f (k : Nat) (l0 : List ByteArray) : Option (ByteArray × Int) := if l0.length < 9223372036854775807 then frame_All.go k l0 ⟨#[]⟩ else none

theorem frame_All.mono_go (k : Nat) : ∀ l acc, LeO (frame_All.go k l acc) (frame_All.go (k + 1) l acc)
  | [], _ => LeO.refl _
  | b :: l, _ => LeO.bind (frame_Put.mono b k) (fun _ => LeO.ite (LeO.ite (frame_All.mono_go k l _) (LeO.none _)) (LeO.refl _))
theorem frame_All.mono : ∀ a0 k, LeO (frame_All.f k a0) (frame_All.f (k + 1) a0) := fun a0 k => LeO.ite (frame_All.mono_go k a0 _) (LeO.none _)

set_option maxHeartbeats 2000000 in
set_option maxRecDepth 100000 in
theorem frame_All.calls (k : Nat) (A0 : Option Addr) (c0 : Nat) (l0 : List ByteArray) (r1 : ByteArray) (r2 : Int) (w : World) (hr0 : Kd.C Kd.string w A0 l0.length l0) (hc0 : l0.length ≤ c0) (hT : TabIn w) (h : frame_All.f k l0 = some (r1, r2)) :
    Calls Tryd.prog 40 #[.slice A0 l0.length c0] w fun e w' => e = .returned (.tuple #[.string r1, .int .i64 r2]) ∧ Below w.heap.size w w' := by
  have HR0 := Aside0.mk hr0
  have HC0 := Aside0.mk hc0
  have HTB := Aside0.mk hT
  unfold frame_All.f at h
  split at h
  case isFalse => cases h
  rename_i hlen
  have HLN := Aside0.mk hlen
  have HH := Aside0.mk h
  clear hr0 hc0 hT h hlen
  go_enter Tryd.func40, Tryd.ntmps40
  go_wp2
  go_loopw [11] (fun v11 wr => ∃ (j : Nat) (acc : ByteArray), v11 = .int .i64 (j : Nat) ∧ Aside0 (j ≤ l0.length) ∧ Aside0 (frame_All.go k (l0.drop j) acc = some (r1, r2)) ∧ Aside0 (Lib.IsBuilder 73 5 w.heap.size w.heap.size (Lib.byteCells acc.data.toList) wr) ∧ Aside0 (Below w.heap.size w wr)) (fun v11 _ => l0.length - (intOf v11).toNat)
  case atStart =>
    exact ⟨0, ⟨#[]⟩, rfl, ⟨Nat.zero_le _⟩, ⟨HH.out⟩, ⟨Lib.fresh_isBuilder 73 5 w⟩, ⟨(Below.refl _ _).alloc (Nat.le_refl _) _⟩⟩
  case round =>
    obtain ⟨j, acc, rfl, HJ, HG, HI, HB⟩ := hrel
    by_cases hlt : j < l0.length
    · have e : l0.drop j = l0[j] :: l0.drop (j + 1) := List.drop_eq_getElem_cons hlt
      have hg := HG.out
      rw [e] at hg
      simp only [frame_All.go] at hg
      obtain ⟨⟨t1, t2⟩, hp, hg⟩ := Option.bind_eq_some_iff.mp hg
      simp only at hg
      have HP := Aside0.mk hp
      clear hp e
      obtain ⟨ad, ea, hx⟩ := Kd.at_string HR0.out (j : Int) (by omega) (by omega)
      cases ea
      replace hx := (HB.out.cell (World.block_lt_of_cell? w _ hx)).trans hx
      have eb : rdOf ByteArray.empty l0 (j : Int) = l0[j] := by simp [rdOf, hlt]
      rw [eb] at hx
      clear eb
      simp only [Int.toNat_natCast] at hx
      obtain ⟨x, hxx⟩ : ∃ x, x = l0[j] := ⟨_, rfl⟩
      rw [← hxx] at hx HP
      clear hxx
      have h1 : decide ((j : Int) < (l0.length : Nat)) = true := decide_eq_true (by omega)
      have h2 : (j : Int) < (l0.length : Nat) := by omega
      by_cases c : t2 = 0
      · rw [if_pos c] at hg
        subst c
        by_cases hs : acc.size + t1.size ≤ 140737488355328
        · rw [if_pos hs] at hg
          have HS := Aside0.mk hs
          have HG2 := Aside0.mk hg
          clear hg hs
          go_wp2_with (first | (go_at_call 37; (with_reducible refine (frame_Put.calls k x t1 0 _ ?side1 HP.out).mono ?_); (case side1 => exact TabIn.below HTB.out HB.out); rintro e w2 ⟨rfl, hb⟩; have HB2 := Aside0.mk (HB.out.trans (hb.mono HB.out.size)); have HI2 := Aside0.mk (isBuilder_below HI.out hb); clear hb))
          refine (writeString_any w.heap.size w.heap.size (Lib.byteCells acc.data.toList) t1 w2 HI2.out (by rw [Lib.byteCells_length]; have := HS.out; rw [← data_length] at this; omega) HB2.out.size).mono ?_
          rintro e w3 ⟨rfl, hi, hb⟩
          have HB3 := Aside0.mk (HB2.out.trans hb)
          have HI3 : Aside0 (Lib.IsBuilder 73 5 w.heap.size w.heap.size (Lib.byteCells (acc ++ t1).data.toList) w3) := ⟨Or.inr (by
            rw [Lib.strCells_eq, ← Lib.byteCells_append] at hi
            simpa using hi)⟩
          clear hi hb
          have hjb : (j : Int) < 9223372036854775807 := by have := HLN.out; omega
          go_wp2
          go_roundw
          case rel => exact ⟨j + 1, acc ++ t1, by go_num, ⟨by omega⟩, HG2, HI3, HB3⟩
          case measure => simp [intOf]; omega
        · rw [if_neg hs] at hg
          cases hg
      · rw [if_neg c] at hg
        obtain ⟨rfl, rfl⟩ : (⟨#[]⟩ : ByteArray) = r1 ∧ t2 = r2 := by
          have := Option.some.inj hg
          simpa using this
        have c1 : (t2 != 0) = true := bne_iff_ne.mpr c
        clear hg
        go_wp2_with (first | (go_at_call 37; (with_reducible refine (frame_Put.calls k x t1 t2 _ ?side1 HP.out).mono ?_); (case side1 => exact TabIn.below HTB.out HB.out); rintro e w2 ⟨rfl, hb⟩; have HB2 := Aside0.mk (HB.out.trans (hb.mono HB.out.size)); clear hb))
        go_ret2
        exact ⟨rfl, HB2.out⟩
    · have e : j = l0.length := by have := HJ.out; omega
      have hg := HG.out
      rw [e, List.drop_length] at hg
      simp only [frame_All.go] at hg
      obtain ⟨rfl, rfl⟩ : acc = r1 ∧ (0 : Int) = r2 := by
        have := Option.some.inj hg
        simpa using this
      clear hg e
      have h1 : decide ((j : Int) < (l0.length : Nat)) = false := decide_eq_false (by omega)
      go_wp2_with (first | (go_at_call 51; (refine (Tryd.Builder_String_any w.heap.size w.heap.size acc.data.toList _ HI.out HB.out.size).mono ?_); rintro e w2 ⟨rfl, hb⟩; have HB2 := Aside0.mk (HB.out.trans hb); clear hb))
      go_ret2
      exact ⟨by simp, HB2.out⟩
end Go.Proofs.YtbanbeaemmlikaaDoor.Px
