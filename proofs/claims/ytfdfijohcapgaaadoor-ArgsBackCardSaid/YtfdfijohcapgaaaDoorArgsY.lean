/- The law ArgsBack: small facts. -/
import Derived.Test.YtfdfijohcapgaaaDoorArgsX
namespace Go.Proofs.YtfdfijohcapgaaaDoor.Path
open Go Go.RowKit Go.Shelf Go.Proofs.YtfdfijohcapgaaaDoor.QPart Go.Proofs.YtfdfijohcapgaaaDoorW.PrintWords Go.Proofs.YtfdfijohcapgaaaDoorW.PrintLast Go.Proofs.YtfdfijohcapgaaaDoorW.PrintMore

structure Bk (w w' : World) (us : List Value) : Prop where
  a : Gy.Arr w' w.heap.size us
  b : Below w.heap.size w w'
theorem Bk.below {w w1 w2 : World} {us : List Value} (h : Bk w w1 us) (hb : Below w1.heap.size w1 w2) : Bk w w2 us := ⟨h.a.below hb, h.b.trans (hb.mono h.b.size)⟩
theorem bk_start (w : World) (v0 v1 v2 v3 v4 : Value) (T : TypeId) : Bk w (w.alloc (.cells #[v0, v1, v2, v3, v4] T)) [v0, v1, v2, v3, v4] :=
  ⟨Gy.Arr.fresh w [v0, v1, v2, v3, v4] _ rfl T, (Below.refl _ _).alloc (Nat.le_refl _) _⟩
theorem strs_row {B N c : Nat} {sa : Option Addr} {names : List ByteArray} {w : World} (h : Strs B w (.slice sa N c) names) (hN : names.length = N) {i : Nat} (hi : i < N) : ∃ o, sa = some ⟨B, o, none⟩ ∧ Row B o names w := by
  obtain ⟨a, c', e, h⟩ := h
  injection e with e1 e2 e3
  rcases h with ⟨h, -⟩ | ⟨o, h, -, R⟩
  · rw [h] at hN; simp at hN; omega
  · exact ⟨o, e1.trans h, R⟩
theorem getD_some {names : List ByteArray} {i : Nat} {nm : ByteArray} (h : names.getD i ⟨#[]⟩ = nm) (hi : i < names.length) : names[i]? = some nm := by
  rw [← h, List.getD, List.getElem?_eq_getElem hi]; rfl
theorem take_le {names : List ByteArray} {i : Nat} {nm : ByteArray} {m : Nat} (h : ∀ x ∈ names.take i, x.size ≤ m) (hi : names[i]? = some nm) (hm : nm.size ≤ m) : ∀ x ∈ names.take (i + 1), x.size ≤ m := by
  rw [List.take_add_one, hi]
  intro x hx
  rcases List.mem_append.1 hx with hx | hx
  · exact h x hx
  · simp at hx; subst hx; exact hm
theorem txt_in {verb : ByteArray} {slice count frm : Int} {names : List ByteArray} : ∃ r, Args.txt ⟨verb, slice, count, frm, names⟩ = verb :: r ∧ r.length ≤ names.length + 2 ∧ ∀ x ∈ r, x ∈ names ∨ x = Args.itB slice ∨ x = Args.itB count ∨ x = Args.itB frm := by
  simp only [Args.txt]
  refine ⟨_, rfl, ?_, ?_⟩
  · split
    · simp
    · split <;> simp
  · intro x hx
    split at hx
    · simp only [List.mem_cons] at hx
      rcases hx with h | h | h
      · exact .inr (.inl h)
      · exact .inr (.inr (.inl h))
      · exact .inl h
    · split at hx
      · simp only [List.mem_cons, List.not_mem_nil, or_false] at hx
        rcases hx with h | h
        · exact .inr (.inr (.inr h))
        · exact .inr (.inr (.inl h))
      · cases hx
theorem line_le {verb : ByteArray} {slice count : Int} {u : Nat} {names : List ByteArray} (s0 : -9223372036854775808 ≤ slice) (s1 : slice ≤ 9223372036854775807) (c0 : -9223372036854775808 ≤ count) (c1 : count ≤ 9223372036854775807) (hu : u ≤ 4294967295)
    (hv : verb.size ≤ 100) (hn : names.length ≤ 20) (hns : ∀ x ∈ names, x.size ≤ 100) : (Args.joinB (Args.txt ⟨verb, slice, count, u, names⟩)).size ≤ 100000 := by
  obtain ⟨r, e, h1, h2⟩ := txt_in (verb := verb) (slice := slice) (count := count) (frm := (u : Int)) (names := names)
  rw [e]
  have := Args.join_size verb r 100 hv (fun x hx => by
    have i1 := Args.itB_size slice s0 s1
    have i2 := Args.itB_size count c0 c1
    have i3 := Args.itB_size u (by omega) (by omega)
    rcases h2 x hx with h | rfl | rfl | rfl
    · exact hns x h
    · omega
    · omega
    · omega)
  have h3 : 101 * r.length ≤ 101 * 22 := Nat.mul_le_mul_left _ (by omega)
  omega
theorem addB_app (acc : ByteArray) (l r : List ByteArray) : Args.addB acc (l ++ r) = Args.addB (Args.addB acc l) r := by unfold Args.addB; rw [List.foldl_append]
theorem addB_size (acc : ByteArray) (m : Nat) : ∀ (r : List ByteArray), (∀ x ∈ r, x.size ≤ m) → (Args.addB acc r).size ≤ acc.size + (m + 1) * r.length := by
  intro r h
  have e := Args.addB_list r acc
  have h1 := congrArg List.length e
  rw [List.length_append, Lib.joinTail_length] at h1
  have h2 := Args.lens_le m r h
  have e1 : (Args.addB acc r).size = (Args.addB acc r).data.toList.length := rfl
  have e2 : acc.size = acc.data.toList.length := rfl
  simp only [List.length_map, List.length_cons, List.length_nil, Nat.add_mul] at h1 ⊢
  omega
theorem add_next {W S nm : ByteArray} {names : List ByteArray} {i : Nat} (h : S = Args.addB W (names.take i)) (hi : names[i]? = some nm) (hW : W.size ≤ 144) (hn : ∀ x ∈ names, x.size ≤ 100) (hl : names.length ≤ 20) : S ++ ⟨#[32]⟩ ++ nm = Args.addB W (names.take (i + 1)) ∧ (S ++ ⟨#[32]⟩ ++ nm).size ≤ 5000 := by
  have e : S ++ ⟨#[32]⟩ ++ nm = Args.addB W (names.take (i + 1)) := by rw [Args.addB_take W names i nm hi, h]; rfl
  refine ⟨e, ?_⟩
  rw [e]
  have h1 := addB_size W 100 (names.take (i + 1)) (fun x hx => hn x (List.mem_of_mem_take hx))
  have h2 : (names.take (i + 1)).length ≤ 20 := by rw [List.length_take]; omega
  have h3 : 101 * (names.take (i + 1)).length ≤ 101 * 20 := Nat.mul_le_mul_left _ h2
  omega
theorem region_last {P : Program} {c : Code} {Q : Exit → Act → World → Prop} {a : Act} {w : World} (A : Act) (Inv : World → Prop)
    (h : Code.wp P c (Exit.then (fun a' w' => a' = A ∧ Inv w') Q) a w) (k : ∀ w', Inv w' → Q .normal A w') : Code.wp P c Q a w :=
  Code.wp_mono (fun e a' w' q => by
    cases e with
    | normal =>
      obtain ⟨rfl, hi⟩ := q
      exact k _ hi
    | _ => exact q) h
end Go.Proofs.YtfdfijohcapgaaaDoor.Path
