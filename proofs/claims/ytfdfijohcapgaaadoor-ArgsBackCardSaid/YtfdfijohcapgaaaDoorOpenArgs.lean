/- What an argument of the type Args is, in memory. -/
import Derived.Test.YtfdfijohcapgaaaDoorArgsE
import Derived.Test.YtfdfijohcapgaaaDoorBt
import Derived.SliceStrings
import Derived.ChangeArms
namespace Go.Proofs.YtfdfijohcapgaaaDoor.Path
open Go Go.RowKit Go.ChangeShapes Go.Proofs.YtfdfijohcapgaaaDoorW.PrintWords Go.Proofs.YtfdfijohcapgaaaDoorW.PrintMore

def ArgOk (W : World) (cs : Array Value) : Prop :=
  ∃ (verb : ByteArray) (slice count : Int) (u : Nat) (names : List ByteArray) (B : Nat) (sl : Value), cs = #[.string verb, .int .i64 slice, .int .i64 count, .int .u32 (u : Int), sl] ∧
    -9223372036854775808 ≤ slice ∧ slice ≤ 9223372036854775807 ∧ -9223372036854775808 ≤ count ∧ count ≤ 9223372036854775807 ∧ u ≤ 4294967295 ∧
    verb.size ≤ 9223372036854775807 ∧ names.length ≤ 9223372036854775807 ∧ (∀ x ∈ names, x.size ≤ 9223372036854775807) ∧ Strs B W sl names
theorem plain_row {w : World} {a : Addr} {ss : List ByteArray} (h : ∀ i, i < ss.length → w.cell? (a.add i) = some (.string (ss.getD i ByteArray.empty))) (hp : 0 < ss.length) : ∃ B o, a = ⟨B, o, none⟩ ∧ Row B o ss w := by
  obtain ⟨b, off, spot⟩ := a
  have hspot : spot = none := by simpa [Addr.add] using World.cell?_spot (h 0 hp)
  subst hspot
  refine ⟨b, off, rfl, fun j hj => ?_, ?_⟩
  · rw [← Addr.add_mid]; exact h j hj
  · rcases Nat.lt_or_ge b w.heap.size with h' | h'
    · exact h'
    · have h0 := h 0 hp
      rw [Addr.add_mid] at h0
      simp [World.cell?, Array.getElem?_eq_none h'] at h0
theorem open_args {H : Type} {enc : TypeId × Value → H} {W : World} {base : Nat} {held : Bool} {cs : Array Value} {x : DataW H} {ps : List MemPlace}
    (hx : DataW.Trod enc Tryd.prog W base (fun _ => true) held 25 (.agg cs) x ps) : ArgOk W cs := by
  obtain ⟨fuel, hf⟩ := hx
  have e : (Value.agg cs).cells = cs := rfl
  rw [e] at hf
  obtain ⟨xs, n, -, -, hlen, hxl, hf⟩ := DataW.trod_struct Tryd.underlying25 hf
  have hl5 : cs.toList.length = 5 := hlen.trans (by kernel_rfl)
  have c9 : Tryd.prog.cellsOf 9 = 1 := by kernel_rfl
  have c3 : Tryd.prog.cellsOf 3 = 1 := by kernel_rfl
  have c22 : Tryd.prog.cellsOf 22 = 1 := by kernel_rfl
  have c23 : Tryd.prog.cellsOf 23 = 1 := by kernel_rfl
  have hx5 : xs.length = 5 := hxl
  obtain ⟨v0, v1, v2, v3, v4, ecs⟩ : ∃ v0 v1 v2 v3 v4, cs.toList = [v0, v1, v2, v3, v4] := by
    match cs.toList, hl5 with
    | [a, b, c, d, e], _ => exact ⟨a, b, c, d, e, rfl⟩
  rw [ecs] at hf
  have g0 : DataW.trod enc Tryd.prog W base (fun _ => true) held n 9 (([v0, v1, v2, v3, v4].drop 0).take (Tryd.prog.cellsOf 9)) = some (xs[0]'(by omega)) := (hf 0 _ rfl).trans (List.getElem?_eq_getElem (by omega))
  have g1 : DataW.trod enc Tryd.prog W base (fun _ => true) held n 3 (([v0, v1, v2, v3, v4].drop 1).take (Tryd.prog.cellsOf 3)) = some (xs[1]'(by omega)) := (hf 1 _ rfl).trans (List.getElem?_eq_getElem (by omega))
  have g2 : DataW.trod enc Tryd.prog W base (fun _ => true) held n 3 (([v0, v1, v2, v3, v4].drop 2).take (Tryd.prog.cellsOf 3)) = some (xs[2]'(by omega)) := (hf 2 _ rfl).trans (List.getElem?_eq_getElem (by omega))
  have g3 : DataW.trod enc Tryd.prog W base (fun _ => true) held n 22 (([v0, v1, v2, v3, v4].drop 3).take (Tryd.prog.cellsOf 22)) = some (xs[3]'(by omega)) := (hf 3 _ rfl).trans (List.getElem?_eq_getElem (by omega))
  have g4 : DataW.trod enc Tryd.prog W base (fun _ => true) held n 23 (([v0, v1, v2, v3, v4].drop 4).take (Tryd.prog.cellsOf 23)) = some (xs[4]'(by omega)) := (hf 4 _ rfl).trans (List.getElem?_eq_getElem (by omega))
  rw [c9] at g0
  rw [c3] at g1 g2
  rw [c22] at g3
  rw [c23] at g4
  obtain ⟨verb, e0, -, s0⟩ := DataW.trod_string Tryd.underlying9 g0
  obtain ⟨slice, e1, -, s1⟩ := DataW.trod_int Tryd.underlying3 g1
  obtain ⟨count, e2, -, s2⟩ := DataW.trod_int Tryd.underlying3 g2
  obtain ⟨frm, e3, -, s3⟩ := DataW.trod_int Tryd.underlying22 g3
  have b1 := Gy.wf_i64 s1
  have b2 := Gy.wf_i64 s2
  obtain ⟨u, rfl, b3⟩ := Gy.wf_u32 s3
  simp only [List.drop_succ_cons, List.drop_zero, List.take_succ_cons, List.take_zero, List.cons.injEq, and_true] at e0 e1 e2 e3
  subst e0 e1 e2 e3
  have emk : cs = #[.string verb, .int .i64 slice, .int .i64 count, .int .u32 (u : Int), v4] := by
    apply Array.toList_inj.1
    rw [ecs]
  unfold maxLen at s0
  rcases open_strings Tryd.underlying23 Tryd.underlying9 c9 g4 with ⟨e4, -⟩ | ⟨a, len, cap, ss, e4, -, h1, h2, h3, -, h4, h5⟩
  · simp only [List.drop_succ_cons, List.drop_zero, List.take_succ_cons, List.take_zero, List.cons.injEq, and_true] at e4
    subst e4
    exact ⟨verb, slice, count, u, [], 0, _, emk, b1.1, b1.2, b2.1, b2.2, by omega, s0, by simp, fun x hx => by simp at hx, strs_nil 0 W⟩
  · simp only [List.drop_succ_cons, List.drop_zero, List.take_succ_cons, List.take_zero, List.cons.injEq, and_true] at e4
    subst e4
    simp only [if_true] at h3
    unfold maxLen at h2 h5
    have hl : (ss.take len).length = len := by rw [List.length_take]; omega
    have hns : ∀ x ∈ ss.take len, x.size ≤ 9223372036854775807 := fun x hx => h5 x (List.mem_of_mem_take hx)
    by_cases hz : len = 0
    · subst hz
      exact ⟨verb, slice, count, u, [], 0, _, emk, b1.1, b1.2, b2.1, b2.2, by omega, s0, by simp, fun x hx => by simp at hx, ⟨some a, cap, rfl, .inl ⟨rfl, fun h => by cases h⟩⟩⟩
    · obtain ⟨B, o, rfl, hR⟩ := plain_row h4 (by omega)
      refine ⟨verb, slice, count, u, ss.take len, B, _, emk, b1.1, b1.2, b2.1, b2.2, by omega, s0, by omega, hns, ⟨some ⟨B, o, none⟩, cap, by rw [hl], .inr ⟨o, rfl, by omega, fun j hj => ?_, hR.lt⟩⟩⟩
      rw [hl] at hj
      rw [hR.cells j (by omega), List.getD_eq_getElem?_getD, List.getD_eq_getElem?_getD, List.getElem?_take, if_pos hj]
end Go.Proofs.YtfdfijohcapgaaaDoor.Path
