/- Package args: a line's text. -/
import Derived.Test.YtfdfijohcapgaaaDoorArgsG
import Derived.Laws.AppendOwnNone
namespace Go.Proofs.YtfdfijohcapgaaaDoor.Path
open Go Go.RowKit Go.Shelf Go.Proofs.YtfdfijohcapgaaaDoor.QPart Go.Proofs.YtfdfijohcapgaaaDoorW.PrintWords Go.Proofs.YtfdfijohcapgaaaDoorW.PrintLast Go.Proofs.YtfdfijohcapgaaaDoorW.PrintMore

theorem own_below {W W' : World} {base : Nat} {e : TypeId} {z n : Nat} {v : Value} {xs : List Value} (h : W.ownsRow base e z v n xs) (hb : Below W.heap.size W W') : W'.ownsRow base e z v n xs := by
  obtain ⟨h1, h2⟩ := h
  refine ⟨h1, h2.imp id ?_⟩
  rintro ⟨g, cap, cur, e1, e2, e3, r⟩
  refine ⟨g, cap, cur, e1, e2, ?_, r⟩
  have hlt : g < W.heap.size := by
    rcases Nat.lt_or_ge g W.heap.size with h' | h'
    · exact h'
    · rw [Array.getElem?_eq_none h'] at e3; cases e3
  rw [hb.block g hlt]; exact e3
def strV (l : List ByteArray) : List Value := l.map Value.string
theorem strV_app (l m : List ByteArray) : strV l ++ strV m = strV (l ++ m) := by simp [strV]
theorem strV_one (l : List ByteArray) : ∀ u ∈ strV l, u.oneCell' = true := by
  intro u hu
  obtain ⟨x, _, rfl⟩ := List.mem_map.1 hu
  rfl
/-- words of the call's own, beside the boxed argument -/
structure Tx (w W : World) (us : List Value) (v : Value) (l : List ByteArray) : Prop where
  a : Gy.Arr W w.heap.size us
  own : W.ownsRow (w.heap.size + 1) 9 1 v l.length (strV l)
  b : Below w.heap.size w W
theorem Tx.below {w W W' : World} {us : List Value} {v : Value} {l : List ByteArray} (h : Tx w W us v l) (hb : Below W.heap.size W W') : Tx w W' us v l :=
  ⟨h.a.below hb, own_below h.own hb, h.b.trans (hb.mono h.b.size)⟩
theorem Tx.grown {w W W' : World} {us : List Value} {v v' : Value} {l l' : List ByteArray} (h : Tx w W us v l) (hg : W.grownBy W' v.ownBlock) (ho : W'.ownsRow (w.heap.size + 1) 9 1 v' l'.length (strV l')) : Tx w W' us v' l' := by
  have hne : some w.heap.size ≠ v.ownBlock := fun e => by have := own_base h.own _ e.symm; omega
  exact ⟨h.a.of_block (hg.block _ h.a.lt hne) (Nat.lt_of_lt_of_le h.a.lt hg.size), ho, h.b.grown hg h.b.size (fun k hk => by have := own_base h.own k hk; omega)⟩
theorem info_str0 : (Tryd.prog.info? 9).map (fun i => (i.zero, i.size, i.bytes)) = some (some (.string ⟨#[]⟩), 1, 16) := by kernel_rfl
theorem info_str : ∃ i, Tryd.prog.info? 9 = some i ∧ i.zero = some (.string ⟨#[]⟩) ∧ i.size = 1 ∧ i.bytes = 16 := by
  obtain ⟨i0, hi, hzz⟩ := Option.map_eq_some_iff.1 info_str0
  simp only [Prod.mk.injEq] at hzz
  exact ⟨i0, hi, hzz.1, hzz.2.1, hzz.2.2⟩
theorem itoa_calls (n : Int) (h0 : -9223372036854775808 ≤ n) (h1 : n ≤ 9223372036854775807) (w : World) (G : Good w) :
    Calls Tryd.prog 17 #[.int .i64 n] w fun e w' => e = .returned (.string (Args.itB n)) ∧ Below w.heap.size w w' := by
  refine (Any.strconv_Itoa Tryd.itoaLay n h0 h1 _ G.tab).mono ?_
  rintro e w' ⟨rfl, k, os, rfl⟩
  exact ⟨rfl, Lib.below_grow _ _ (Nat.le_refl _) _ _⟩
theorem formatB_calls (u : Nat) (h : u ≤ 4294967295) (w : World) (G : Good w) :
    Calls Tryd.prog 18 #[.int .u64 u, .int .i64 10] w fun e w' => e = .returned (.string (Args.itB u)) ∧ Below w.heap.size w w' := by
  refine (format_calls u (by omega) w G.tab).mono ?_
  rintro e w' ⟨rfl, hb⟩
  refine ⟨?_, hb⟩
  unfold Args.itB
  rw [Lib.itoa_nonneg]
theorem joinX : Builder.Extra Tryd.prog Tryd.joinLay_ren where
  sizeBuilder := by kernel_rfl
  liesBuilder := by kernel_rfl
  t5 := Tryd.underlying5
  a5 := Tryd.isAgg5
  z5 := Tryd.sizeOf5
  v5 := Tryd.zeroValue5
  infoByte := by kernel_rfl
  cellsByte := by kernel_rfl
  sizeByte := by kernel_rfl
  neB5 := by decide
theorem join_calls (l : List ByteArray) (v : Value) (base n : Nat) (hn : l.length = n) (h0 : 0 < n) (h2 : n ≤ 1000000) (hl : (Lib.join (l.map (·.data.toList)) [32]).length ≤ 140737488355328) (w : World) (hown : w.ownsRow base 9 1 v n (strV l)) :
    Calls Tryd.prog 19 #[v, .string ⟨#[32]⟩] w fun e w' => e = .returned (.string (Args.joinB l)) ∧ Below w.heap.size w w' := by
  subst hn
  obtain ⟨g, cap, rfl⟩ := Joins.ownsRow_form hown h0
  have hlt := (hown.lt g rfl).2
  have hcap : l.length ≤ cap ∧ cap ≤ maxLen := by
    obtain ⟨-, h⟩ := hown
    rcases h with ⟨h, -⟩ | ⟨g', cap', cur, e1, e2, e3, e4, e5, -⟩
    · cases h
    · injection e1 with e6 e7 e8
      exact ⟨by omega, by omega⟩
  refine (Any.strings_Join Tryd.joinLay joinX g 0 cap l ⟨#[32]⟩ w (fun j x hx => ?_) hlt (by omega) hcap.1 hl).mono fun e w' h => h
  · have hj : j < l.length := (List.getElem?_eq_some_iff.1 hx).1
    have h := hown.cellAt j (by omega)
    rw [Nat.zero_add, h]
    simp [strV, hx]
section
variable {P : Program} {ops : Array Oper} {o : Oper} {a : Act} {Q : Exit → Act → World → Prop} {K : Act → World → Prop}
/-- append(v, x..) of strings, as a step of a region that draws its order -/
theorem step_append_strs {w W : World} {us : List Value} (hw : Region.wanted o (yielded ops a.tmps) = true) (s x : Operand) (t e : TypeId) (he : e = 9)
    (ho : o.op = .call { callee := .builtin .append, args := #[s, x], argTypes := #[t, t] })
    (ht : P.underlying t = some (.slice e)) (hinfo : (P.info? e).map (fun i => (i.zero, i.size, i.bytes)) = some (some (.string ⟨#[]⟩), 1, 16))
    (v : Value) (l : List ByteArray) (ad : Addr) (m c : Nat) (r : List ByteArray) (hs : a.eval s = v) (hx : a.eval x = .slice (some ad) m c) (hm : r.length = m)
    (T : Tx w W us v l) (hc : ∀ j u, (strV r)[j]? = some u → W.cell? (ad.add j) = some u) (hl : l.length + m ≤ 1000000)
    (h : ∀ v1 w1, Tx w w1 us v1 (l ++ r) → K (a.put o.dst v1) w1) :
    if Region.wanted o (yielded ops a.tmps) = true then Oper.wp P o a W K Q else K (a.put o.dst undef) W := by
  subst he
  obtain ⟨i0, hi, hzz⟩ := Option.map_eq_some_iff.1 hinfo
  simp only [Prod.mk.injEq] at hzz
  obtain ⟨hz0, hz1, hz2⟩ := hzz
  obtain ⟨v1, w1, hr, h2, h3, _, h5⟩ := run_append_own_at (P := P) W (w.heap.size + 1) t o.type 9 i0 (.string ⟨#[]⟩) 1 16 ht hi hz0 hz1 hz2 rfl (by omega) v l.length (strV l) T.own ad m c (strV r) (by simp [strV, hm])
    hc (strV_one r) (by simp only [maxLen]; omega) (by omega) (by have := T.a.lt; omega)
  rw [if_pos hw]
  unfold Oper.wp execOp
  simp only [ho, resolve, invoke, builtin, Sem.run_bind, Sem.run_pure, Result.andThen_ok, List.map_toArray, List.map_cons, List.map_nil, hs, hx, hr]
  refine h v1 w1 (T.grown h3 ?_)
  rw [← strV_app, List.length_append, hm]
  exact h2
end
end Go.Proofs.YtfdfijohcapgaaaDoor.Path
