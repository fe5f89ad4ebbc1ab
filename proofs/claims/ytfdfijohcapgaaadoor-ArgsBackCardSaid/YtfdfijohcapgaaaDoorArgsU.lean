/- Package args: the line of what is said. -/
import Derived.Test.YtfdfijohcapgaaaDoorArgsT
namespace Go.Proofs.YtfdfijohcapgaaaDoor.Path
open Go Go.RowKit Go.Shelf Go.Proofs.YtfdfijohcapgaaaDoor.QPart Go.Proofs.YtfdfijohcapgaaaDoorW.PrintWords Go.Proofs.YtfdfijohcapgaaaDoorW.PrintLast Go.Proofs.YtfdfijohcapgaaaDoorW.PrintMore

theorem region_then2 {P : Program} {c : Code} {K : Act → World → Prop} {Q : Exit → Act → World → Prop} {a : Act} {w : World} (A : Nat → Value → Act) (Inv : Value → World → Prop)
    (h : Code.wp P c (Exit.then (fun a' w' => ∃ b v, a' = A b v ∧ Inv v w') Q) a w) (k : ∀ b v w', Inv v w' → K (A b v) w') : Code.wp P c (Exit.then K Q) a w :=
  Code.wp_mono (fun e a' w' q => by
    cases e with
    | normal =>
      obtain ⟨b, v, rfl, hi⟩ := q
      exact k _ _ _ hi
    | _ => exact q) h
theorem region_last2 {P : Program} {c : Code} {Q : Exit → Act → World → Prop} {a : Act} {w : World} (A : Nat → Value → Act) (Inv : Value → World → Prop)
    (h : Code.wp P c (Exit.then (fun a' w' => ∃ b v, a' = A b v ∧ Inv v w') Q) a w) (k : ∀ b v w', Inv v w' → Q .normal (A b v) w') : Code.wp P c Q a w :=
  Code.wp_mono (fun e a' w' q => by
    cases e with
    | normal =>
      obtain ⟨b, v, rfl, hi⟩ := q
      exact k _ _ _ hi
    | _ => exact q) h
theorem join_len' (l : List ByteArray) (hl : l.length ≤ 2000) (h : ∀ w ∈ l, w.size ≤ 1000) : (Lib.join (l.map (·.data.toList)) [32]).length ≤ 140737488355328 := by
  cases l with
  | nil => simp [Lib.join_nil]
  | cons x r =>
    have := Args.join_len x r 1000 (h x (by simp)) (fun w hw => h w (by simp [hw]))
    simp only [List.length_cons] at hl
    omega
theorem tx_app {w W W' : World} {us : List Value} {v v' : Value} {l r : List ByteArray} {n : Nat} (h : Tx w W us v l) (hg : W.grownBy W' v.ownBlock) (ho : W'.ownsRow (w.heap.size + 1) 9 1 v' (n + r.length) (strV l ++ strV r)) (hn : l.length = n := by rfl) : Tx w W' us v' (l ++ r) := by
  refine h.grown hg ?_
  rw [← strV_app, List.length_append, hn]
  exact ho
theorem lit_strs (w : World) (l : List ByteArray) (T : TypeId) : ∀ j u, (strV l)[j]? = some u → (w.alloc (.cells (strV l).toArray T)).cell? ((⟨w.heap.size, 0, none⟩ : Addr).add j) = some u := by
  intro j u hu
  rw [Gy.addr_add, World.cell?_alloc_new]
  try rw [Nat.zero_add]
  rw [List.getElem?_toArray]
  exact hu
theorem tx_start (w : World) (v0 v1 v2 v3 v4 : Value) (T : TypeId) (x : ByteArray) :
    Tx w ((w.alloc (.cells #[v0, v1, v2, v3, v4] T)).alloc (.cells #[.string x] 9)) [v0, v1, v2, v3, v4] (.slice (some ⟨w.heap.size + 1, 0, none⟩) 1 1) [x] := by
  have e : (w.alloc (.cells #[v0, v1, v2, v3, v4] T)).heap.size = w.heap.size + 1 := Gy.size_alloc' _ _
  have h := World.ownsRow_lit (base := w.heap.size + 1) (e := 9) (size := 1) (w.alloc (.cells #[v0, v1, v2, v3, v4] T)) #[.string x] 1 (by rw [e]; exact Nat.le_refl _) (by decide) rfl
  rw [e] at h
  exact ⟨(Gy.Arr.fresh w [v0, v1, v2, v3, v4] _ rfl T).alloc _, h, ((Below.refl _ _).alloc (Nat.le_refl _) _).alloc (by rw [Gy.size_alloc']; omega) _⟩
set_option maxHeartbeats 8000000 in
set_option maxRecDepth 100000 in
theorem text_calls (verb : ByteArray) (slice count : Int) (u : Nat) (names : List ByteArray) (hu : u ≤ 4294967295) (s0 : -9223372036854775808 ≤ slice) (s1 : slice ≤ 9223372036854775807) (c0 : -9223372036854775808 ≤ count) (c1 : count ≤ 9223372036854775807)
    (hv : verb.size ≤ 1000) (hn : names.length ≤ 1000) (hns : ∀ x ∈ names, x.size ≤ 1000) (B : Nat) (sl : Value) (w : World) (G : Good w) (S : Strs B w sl names) :
    Calls Tryd.prog 11 #[.agg #[.string verb, .int .i64 slice, .int .i64 count, .int .u32 u, sl]] w fun e w' => e = .returned (.string (Args.joinB (Args.txt ⟨verb, slice, count, u, names⟩))) ∧ Below w.heap.size w w' := by
  have G' := Lib.hid G
  have S' := Lib.hid S
  clear G
  obtain ⟨sa, sc, rfl, -⟩ := S
  have eqb : ∀ (c : ByteArray), (verb.toList == c.toList) = decide (verb = c) := fun c => beq_bytes verb c
  by_cases hcv : verb = Args.crB
  · have t1 : (verb.toList == ([99, 114, 101, 97, 116, 101] : List UInt8)) = true := by rw [hcv, Lib.toList_data]; rfl
    have E : Hid (Args.txt ⟨verb, slice, count, u, names⟩ = verb :: Args.itB slice :: Args.itB count :: names) := Lib.hid (by simp only [Args.txt]; rw [if_pos hcv])
    clear hcv eqb
    rw [E.out]
    go_enter Tryd.func11, Tryd.ntmps11
    go_wp2
    have HT := Lib.hid ((tx_start w (.string verb) (.int .i64 slice) (.int .i64 count) (.int .u32 u) (.slice sa names.length sc) 25 verb).below (Gy.drew_below _))
    obtain ⟨k0, k1, k2, k3, k4, kf⟩ := arr5 HT.out.a
    apply region_then2 (Inv := fun v w5 => Tx w w5 [.string verb, .int .i64 slice, .int .i64 count, .int .u32 u, .slice sa names.length sc] v ([verb] ++ [Args.itB slice, Args.itB count]))
    case h =>
      go_region_law (first
        | (refine step_append_strs (w := w) rfl (.tmp 11) (.tmp 18) 23 9 rfl rfl Tryd.underlying23 info_str0 _ [verb] ⟨w2.heap.size, 0, none⟩ 2 2 [Args.itB slice, Args.itB count] rfl rfl rfl (HT.out.below (Gy.alloc_below _ _)) (lit_strs w2 [Args.itB slice, Args.itB count] _) (by simp) ?_; intro v1 w4 T1; have HT := Lib.hid T1)
        | (go_simp; go_at_call 17; refine (itoa_calls _ (by first | exact s0 | exact c0) (by first | exact s1 | exact c1) _ (G'.out.below HT.out.b)).mono ?_; rintro e w2 ⟨rfl, hd⟩; have HT := Lib.hid (HT.out.below hd); obtain ⟨k0, k1, k2, k3, k4, kf⟩ := arr5 HT.out.a; clear hd))
      all_goals
        generalize w2.heap.size = bb
        exact ⟨bb, v1, rfl, HT.out⟩
    case k =>
      intro bb v w5 hT5
      have HT := Lib.hid hT5
      clear hT5
      obtain ⟨k0, k1, k2, k3, k4, kf⟩ := arr5 HT.out.a
      have hl := join_len' (([verb] ++ [Args.itB slice, Args.itB count]) ++ names) (by simp; omega) (by
        intro x hx
        have i1 := Args.itB_size slice s0 s1
        have i2 := Args.itB_size count c0 c1
        simp only [List.mem_append, List.mem_cons, List.not_mem_nil, or_false] at hx
        rcases hx with (rfl | rfl | rfl) | hx
        · omega
        · omega
        · omega
        · exact hns x hx)
      have hlen : ([verb] ++ [Args.itB slice, Args.itB count]).length = 3 := rfl
      obtain ⟨i0, hi, hz0, hz1, hz2⟩ := info_str
      cases sa with
      | none =>
        have hnil : names = [] ∧ sc = 0 := by
          obtain ⟨a, c, e, h⟩ := S'.out
          injection e with e1 e2 e3
          rcases h with ⟨h, h2⟩ | ⟨o, h, -⟩
          · exact ⟨h, by rw [e3]; exact h2 e1.symm⟩
          · rw [← e1] at h; cases h
        obtain ⟨rfl, rfl⟩ := hnil
        go_wp2_with (first
          | (at_builtin; refine wpList_append_own_none rfl _ _ 23 rfl (w.heap.size + 1) 9 i0 1 Tryd.underlying23 hi v 3 (strV ([verb] ++ [Args.itB slice, Args.itB count])) rfl HT.out.own rfl ?_)
          | (go_at_call 19; refine (join_calls _ _ _ 3 rfl (by decide) (by decide) hl _ HT.out.own).mono ?_; rintro e w2 ⟨rfl, hd⟩; have hb := Lib.hid (HT.out.b.trans (hd.mono HT.out.b.size)); clear hd))
        go_ret
        exact ⟨rfl, hb.out⟩
      | some ad =>
        have hnr : ∀ j q, (strV names)[j]? = some q → w5.cell? (ad.add j) = some q := by
          intro j q hq
          obtain ⟨a, c, e, h⟩ := S'.out
          injection e with e1 e2 e3
          rcases h with ⟨h, -⟩ | ⟨o, h, -, hR⟩
          · rw [h] at hq; simp [strV] at hq
          · rw [← e1] at h
            injection h with h
            subst h
            have hj : j < names.length := by
              rcases Nat.lt_or_ge j names.length with h' | h'
              · exact h'
              · simp [strV, List.getElem?_eq_none h'] at hq
            rw [Addr.add_mid, (hR.below HT.out.b).cells j hj]
            simp only [strV, List.getElem?_map, List.getElem?_eq_getElem hj, Option.map_some, Option.some.injEq] at hq
            rw [← hq, List.getD_eq_getElem?_getD, List.getElem?_eq_getElem hj]; rfl
        go_wp2_with (first
          | (at_builtin; refine wpList_append_own _ rfl _ _ 23 rfl (w.heap.size + 1) 9 i0 (.string ⟨#[]⟩) 1 16 Tryd.underlying23 hi hz0 hz1 hz2 rfl (by decide) v 3 (strV ([verb] ++ [Args.itB slice, Args.itB count])) rfl HT.out.own ad names.length sc (strV names) rfl (by simp [strV]) hnr (strV_one _) (by simp only [maxLen]; omega) (by omega) (by have := HT.out.a.lt; omega) ?_; intro v1 w6 ho hg _; have HT := Lib.hid (tx_app HT.out hg ho); clear ho hg)
          | (go_at_call 19; refine (join_calls (([verb] ++ [Args.itB slice, Args.itB count]) ++ names) v1 _ _ rfl (by simp) (by simp; omega) hl _ HT.out.own).mono ?_; rintro e w2 ⟨rfl, hd⟩; have hb := Lib.hid (HT.out.b.trans (hd.mono HT.out.b.size)); clear hd))
        go_ret
        exact ⟨rfl, hb.out⟩
  · have n1 := hcv
    clear hcv
    have t1 : (verb.toList == ([99, 114, 101, 97, 116, 101] : List UInt8)) = false := by
      have h := eqb Args.crB
      rw [decide_eq_false n1, Lib.toList_data Args.crB] at h
      exact h
    by_cases hcv : verb = Args.exB
    · have t2 : (verb.toList == ([101, 120, 116, 101, 110, 100] : List UInt8)) = true := by rw [hcv, Lib.toList_data]; rfl
      have E : Hid (Args.txt ⟨verb, slice, count, u, names⟩ = [verb, Args.itB u, Args.itB count]) := Lib.hid (by simp only [Args.txt]; rw [if_neg n1, if_pos hcv])
      clear hcv eqb n1
      have hwr : IntKind.u64.wrap (u : Int) = (u : Int) := by rw [IntKind.wrap_u64]; omega
      rw [E.out]
      go_enter Tryd.func11, Tryd.ntmps11
      go_wp2
      have HT := Lib.hid ((tx_start w (.string verb) (.int .i64 slice) (.int .i64 count) (.int .u32 u) (.slice sa names.length sc) 25 verb).below (Gy.drew_below _))
      obtain ⟨k0, k1, k2, k3, k4, kf⟩ := arr5 HT.out.a
      apply region_last2 (Inv := fun v w5 => Tx w w5 [.string verb, .int .i64 slice, .int .i64 count, .int .u32 u, .slice sa names.length sc] v ([verb] ++ [Args.itB u, Args.itB count]))
      case h =>
        go_region_law (first
          | (refine step_append_strs (w := w) rfl (.tmp 26) (.tmp 34) 23 9 rfl rfl Tryd.underlying23 info_str0 _ [verb] ⟨w2.heap.size, 0, none⟩ 2 2 [Args.itB u, Args.itB count] rfl rfl rfl (HT.out.below (Gy.alloc_below _ _)) (lit_strs w2 [Args.itB u, Args.itB count] _) (by simp) ?_; intro v1 w4 T1; have HT := Lib.hid T1)
          | (go_simp; go_at_call 18; refine (formatB_calls u hu _ (G'.out.below HT.out.b)).mono ?_; rintro e w2 ⟨rfl, hd⟩; have HT := Lib.hid (HT.out.below hd); obtain ⟨k0, k1, k2, k3, k4, kf⟩ := arr5 HT.out.a; clear hd)
          | (go_simp; go_at_call 17; refine (itoa_calls _ (by first | exact s0 | exact c0) (by first | exact s1 | exact c1) _ (G'.out.below HT.out.b)).mono ?_; rintro e w2 ⟨rfl, hd⟩; have HT := Lib.hid (HT.out.below hd); obtain ⟨k0, k1, k2, k3, k4, kf⟩ := arr5 HT.out.a; clear hd))
        all_goals
          generalize w2.heap.size = bb
          exact ⟨bb, v1, rfl, HT.out⟩
      case k =>
        intro bb v w5 hT5
        have HT := Lib.hid hT5
        clear hT5
        obtain ⟨k0, k1, k2, k3, k4, kf⟩ := arr5 HT.out.a
        have hl := join_len' ([verb] ++ [Args.itB u, Args.itB count]) (by simp) (by
          intro x hx
          have i1 := Args.itB_size u (by omega) (by omega)
          have i2 := Args.itB_size count c0 c1
          simp only [List.mem_append, List.mem_cons, List.not_mem_nil, or_false] at hx
          rcases hx with rfl | rfl | rfl <;> omega)
        go_wp2_with (go_at_call 19; refine (join_calls _ _ _ 3 rfl (by decide) (by decide) hl _ HT.out.own).mono ?_; rintro e w2 ⟨rfl, hd⟩; have hb := Lib.hid (HT.out.b.trans (hd.mono HT.out.b.size)); clear hd)
        go_ret
        exact ⟨rfl, hb.out⟩
    · have n2 := hcv
      clear hcv
      have t2 : (verb.toList == ([101, 120, 116, 101, 110, 100] : List UInt8)) = false := by
        have h := eqb Args.exB
        rw [decide_eq_false n2, Lib.toList_data Args.exB] at h
        exact h
      have E : Hid (Args.txt ⟨verb, slice, count, u, names⟩ = [verb]) := Lib.hid (by simp only [Args.txt]; rw [if_neg n1, if_neg n2])
      clear n1 n2 eqb
      rw [E.out]
      have HT := Lib.hid (tx_start w (.string verb) (.int .i64 slice) (.int .i64 count) (.int .u32 u) (.slice sa names.length sc) 25 verb)
      have hl := join_len' [verb] (by simp) (by simp [hv])
      go_enter Tryd.func11, Tryd.ntmps11
      go_wp2_with (go_at_call 19; refine (join_calls [verb] _ _ 1 rfl (by decide) (by decide) hl _ HT.out.own).mono ?_; rintro e w2 ⟨rfl, hd⟩; have hb := Lib.hid (HT.out.b.trans (hd.mono HT.out.b.size)); clear hd)
      go_ret
      exact ⟨rfl, hb.out⟩
end Go.Proofs.YtfdfijohcapgaaaDoor.Path
