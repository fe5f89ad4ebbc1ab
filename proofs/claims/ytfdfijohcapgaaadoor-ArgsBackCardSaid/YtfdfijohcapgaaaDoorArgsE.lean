/- Package args: what stands behind extend. -/
import Derived.Test.YtfdfijohcapgaaaDoorArgsF
import Derived.Test.YtfdfijohcapgaaaDoorArr
namespace Go.Proofs.YtfdfijohcapgaaaDoor.Path
open Go Go.RowKit Go.Shelf Go.Proofs.YtfdfijohcapgaaaDoor.QPart Go.Proofs.YtfdfijohcapgaaaDoorW.PrintWords Go.Proofs.YtfdfijohcapgaaaDoorW.PrintLast Go.Proofs.YtfdfijohcapgaaaDoorW.PrintMore

set_option maxRecDepth 100000 in
theorem within_calls (n l t : Int) (w : World) :
    Calls Tryd.prog 24 #[.int .i64 n, .int .i64 l, .int .i64 t] w fun e w' => e = .returned (.bool (decide (l ≤ n) && decide (n ≤ t))) ∧ w' = w := by
  by_cases h : l ≤ n
  · by_cases h2 : n ≤ t
    · have E : Hid ((decide (l ≤ n) && decide (n ≤ t)) = true) := Lib.hid (by rw [decide_eq_true h, decide_eq_true h2]; rfl)
      rw [E.out]
      go_enter Tryd.func24, Tryd.ntmps24
      go_wp2
      go_ret
      exact ⟨rfl, rfl⟩
    · have E : Hid ((decide (l ≤ n) && decide (n ≤ t)) = false) := Lib.hid (by rw [decide_eq_true h, decide_eq_false h2]; rfl)
      rw [E.out]
      go_enter Tryd.func24, Tryd.ntmps24
      go_wp2
      go_ret
      exact ⟨rfl, rfl⟩
  · have E : Hid ((decide (l ≤ n) && decide (n ≤ t)) = false) := Lib.hid (by rw [decide_eq_false h]; rfl)
    rw [E.out]
    go_enter Tryd.func24, Tryd.ntmps24
    go_wp2
    go_ret
    exact ⟨rfl, rfl⟩
theorem below_drew {B : Nat} {w w' : World} (h : Below B w w') : Below B w w'.drew := pw_below_drewN h 1
/-- a row of strings in memory -/
structure Row (B o : Nat) (l : List ByteArray) (w : World) : Prop where
  cells : ∀ j, j < l.length → w.cell? ⟨B, o + j, none⟩ = some (.string (l.getD j ⟨#[]⟩))
  lt : B < w.heap.size
theorem Row.below {B o : Nat} {l : List ByteArray} {w w' : World} (h : Row B o l w) (hb : Below w.heap.size w w') : Row B o l w' :=
  ⟨fun j hj => cell_below hb (h.cells j hj), Nat.lt_of_lt_of_le h.lt hb.size⟩
theorem Row.alloc {B o : Nat} {l : List ByteArray} {w : World} (h : Row B o l w) (ob : Obj) : Row B o l (w.alloc ob) := h.below ((Below.refl _ _).alloc (Nat.le_refl _) _)
theorem Row.tail {B o : Nat} {x : ByteArray} {l : List ByteArray} {w : World} (h : Row B o (x :: l) w) : Row B (o + 1) l w :=
  ⟨fun j hj => by
    have := h.cells (j + 1) (by simp; omega)
    rw [show o + 1 + j = o + (j + 1) by omega, this]; rfl, h.lt⟩
theorem Row.head {B o : Nat} {x : ByteArray} {l : List ByteArray} {w : World} (h : Row B o (x :: l) w) : w.cell? ⟨B, o, none⟩ = some (.string x) := by
  have := h.cells 0 (by simp)
  simpa using this
/-- names, as a value -/
def Strs (B : Nat) (w : World) (v : Value) (l : List ByteArray) : Prop :=
  ∃ a c, v = .slice a l.length c ∧ ((l = [] ∧ (a = none → c = 0)) ∨ ∃ o, a = some ⟨B, o, none⟩ ∧ l.length ≤ c ∧ Row B o l w)
theorem Strs.below {B : Nat} {v : Value} {l : List ByteArray} {w w' : World} (h : Strs B w v l) (hb : Below w.heap.size w w') : Strs B w' v l := by
  obtain ⟨a, c, e, h⟩ := h
  refine ⟨a, c, e, ?_⟩
  rcases h with h | ⟨o, e1, e2, e3⟩
  · exact .inl h
  · exact .inr ⟨o, e1, e2, e3.below hb⟩
theorem Row.far {B o b : Nat} (hB : B ≠ b) {l : List ByteArray} {w : World} (h : Row B o l w) (i : Nat) (v : Value) : Row B o l (w.setCell ⟨b, i, none⟩ v) := by
  refine ⟨fun j hj => ?_, by rw [Gy.set_size]; exact h.lt⟩
  rw [World.cell?_setCell_other _ _ _ _ (by intro e; exact hB (congrArg Addr.block e).symm)]
  exact h.cells j hj
theorem Strs.far5 {B b : Nat} (hB : B ≠ b) {v : Value} {l : List ByteArray} {w : World} (h : Strs B w v l) (u0 u1 u2 u3 u4 : Value) :
    Strs B (((((w.setCell ⟨b, 0, none⟩ u0).setCell ⟨b, 1, none⟩ u1).setCell ⟨b, 2, none⟩ u2).setCell ⟨b, 3, none⟩ u3).setCell ⟨b, 4, none⟩ u4) v l := by
  obtain ⟨a, c, e, h⟩ := h
  refine ⟨a, c, e, ?_⟩
  rcases h with h | ⟨o, e1, e2, e3⟩
  · exact .inl h
  · exact .inr ⟨o, e1, e2, ((((e3.far hB 0 _).far hB 1 _).far hB 2 _).far hB 3 _).far hB 4 _⟩
theorem strs_nil (B : Nat) (w : World) : Strs B w (.slice none 0 0) [] := ⟨none, 0, rfl, .inl ⟨rfl, fun _ => rfl⟩⟩
/-- what is said, as a value -/
def argV (a : Args.Ar) (sl : Value) : Value := .agg #[.string a.verb, .int .i64 a.slice, .int .i64 a.count, .int .u32 a.frm, sl]
theorem numOf_le (s : ByteArray) : -1 ≤ Args.num s ∧ Args.num s ≤ 4294967295 := ⟨(Args.num_top _).2, (Args.num_top _).1⟩
def argL (a : Args.Ar) (sl : Value) : List Value := [.string a.verb, .int .i64 a.slice, .int .i64 a.count, .int .u32 a.frm, sl]
theorem arr5 {w : World} {b : Nat} {v0 v1 v2 v3 v4 : Value} (h : Gy.Arr w b [v0, v1, v2, v3, v4]) :
    w.cell? ⟨b, 0, none⟩ = some v0 ∧ w.cell? ⟨b, 1, none⟩ = some v1 ∧ w.cell? ⟨b, 2, none⟩ = some v2 ∧ w.cell? ⟨b, 3, none⟩ = some v3 ∧ w.cell? ⟨b, 4, none⟩ = some v4 ∧ ∀ o, w.frozen? ⟨b, o, none⟩ = false :=
  ⟨h.cell rfl, h.cell rfl, h.cell rfl, h.cell rfl, h.cell rfl, h.fr⟩
theorem arr5_set {w : World} {b : Nat} {v0 v1 v2 v3 v4 : Value} (h : Gy.Arr w b [v0, v1, v2, v3, v4]) (u0 u1 u2 u3 u4 : Value) :
    Gy.Arr (((((w.setCell ⟨b, 0, none⟩ u0).setCell ⟨b, 1, none⟩ u1).setCell ⟨b, 2, none⟩ u2).setCell ⟨b, 3, none⟩ u3).setCell ⟨b, 4, none⟩ u4) b [u0, u1, u2, u3, u4] := by
  have h0 := h.set (i := 0) (by simp) u0
  have h1 := h0.set (i := 1) (by simp) u1
  have h2 := h1.set (i := 2) (by simp) u2
  have h3 := h2.set (i := 3) (by simp) u3
  exact h3.set (i := 4) (by simp) u4
theorem below5 {B b : Nat} {w w' : World} (hb : B ≤ b) (h : Below B w w') (u0 u1 u2 u3 u4 : Value) :
    Below B w (((((w'.setCell ⟨b, 0, none⟩ u0).setCell ⟨b, 1, none⟩ u1).setCell ⟨b, 2, none⟩ u2).setCell ⟨b, 3, none⟩ u3).setCell ⟨b, 4, none⟩ u4) :=
  ((((h.setCell (show B ≤ (⟨b, 0, none⟩ : Addr).block from hb) _).setCell (show B ≤ (⟨b, 1, none⟩ : Addr).block from hb) _).setCell (show B ≤ (⟨b, 2, none⟩ : Addr).block from hb) _).setCell (show B ≤ (⟨b, 3, none⟩ : Addr).block from hb) _).setCell (show B ≤ (⟨b, 4, none⟩ : Addr).block from hb) _
theorem infoArgs : (Tryd.prog.info? 25).map (·.size) = some 5 := by kernel_rfl
theorem fin_ar {f : Func} (hf : f.results = #[.cell 2 25, .tmp 3]) {tmps : Array Value} {w : World} {b : Nat} {k : Value} {a : Args.Ar} {sl : Value} (hp : tmps.getD 2 undef = .pointer (some ⟨b, 0, none⟩)) (ht : tmps.getD 3 undef = k) (h : Gy.Arr w b (argL a sl)) :
    (results f tmps).run Tryd.prog w = .ok (.tuple #[argV a sl, k]) w := by
  have hT : (loadVar 25 ⟨b, 0, none⟩).run Tryd.prog w = .ok (argV a sl) w := h.loadV Tryd.underlying25 rfl infoArgs
  unfold results
  rw [hf]
  have e : #[ResultVar.cell 2 25, ResultVar.tmp 3] = [ResultVar.cell 2 25, ResultVar.tmp 3].toArray := rfl
  rw [e, List.mapM_toArray]
  simp only [Sem.run_bind, Sem.run_map]
  have hp2 : tmps[2]?.getD undef = .pointer (some ⟨b, 0, none⟩) := by rw [← hp, Array.getD_eq_getD_getElem?]
  have ht2 : tmps[3]?.getD undef = k := by rw [← ht, Array.getD_eq_getD_getElem?]
  simp [List.mapM_cons, hp2, ht2, asAddr, hT]
def zs : List Value := [.string ⟨#[]⟩, .int .i64 0, .int .i64 0, .int .u32 0, .slice none 0 0]
theorem arr_fresh (w : World) (t : TypeId) : Gy.Arr (w.alloc (.cells #[.string ⟨#[]⟩, .int .i64 0, .int .i64 0, .int .u32 0, .slice none 0 0] t)) w.heap.size zs := Gy.Arr.fresh w zs _ rfl t
set_option maxHeartbeats 4000000 in
set_option maxRecDepth 100000 in
theorem extend_calls (l : List ByteArray) (hl : l.length ≤ 1000000) (hsz : ∀ x ∈ l, x.size ≤ 1000000) (B o c : Nat) (hc : l.length ≤ c) (w : World) (G : Good w) (R : Row B o l w) :
    Calls Tryd.prog 16 #[.slice (some ⟨B, o, none⟩) l.length c] w fun e w' => e = .returned (.tuple #[argV (Args.pex l).1 (.slice none 0 0), .int .i64 (Args.pex l).2]) ∧ Below w.heap.size w w' := by
  have G' := Lib.hid G
  have R' := Lib.hid R
  clear G R
  have B0 : ∀ ob, Below w.heap.size w (w.alloc ob) := fun ob => (Below.refl _ _).alloc (Nat.le_refl _) _
  by_cases h2 : l.length = 2
  · obtain ⟨x, y, rfl⟩ : ∃ x y, l = [x, y] := by
      match l, h2 with
      | [x, y], _ => exact ⟨x, y, rfl⟩
    have hx : x.size ≤ 1000000 := hsz x (by simp)
    have hy : y.size ≤ 1000000 := hsz y (by simp)
    have hx9 : x.size ≤ 1000000000 := by omega
    have hy9 : y.size ≤ 1000000000 := by omega
    have bx := numOf_le x
    have bY := numOf_le y
    obtain ⟨p, hp⟩ : ∃ p, Args.num x = p := ⟨_, rfl⟩
    obtain ⟨q, hq⟩ : ∃ q, Args.num y = q := ⟨_, rfl⟩
    have hP := Lib.hid hp
    have hQ := Lib.hid hq
    have hc0 : ∀ ob, (w.alloc ob).cell? ⟨B, o, none⟩ = some (.string x) := fun ob => (R'.out.alloc ob).head
    rw [hp] at bx
    rw [hq] at bY
    clear hp hq hsz hl
    simp only [List.length_cons, List.length_nil, Nat.zero_add] at hc ⊢
    by_cases hn : p < 0
    · have E : Hid (Args.pex [x, y] = (Args.none, 2)) := Lib.hid (by simp only [Args.pex]; rw [hP.out, hQ.out, if_pos (Or.inl hn)])
      rw [E.out]
      go_enter Tryd.func16, Tryd.ntmps16
      go_wp2_with (first
                | (go_at_call 23; refine (number_calls _ (by first | exact hx9 | exact hy9) _ (by first | exact G'.out.below hb.out | exact G'.out.below (B0 _))).mono ?_; (first | rw [hP.out] | rw [hQ.out]); rintro e w1 ⟨rfl, hd⟩; (first | (have hA := Lib.hid (hA.out.below hd); have hb := Lib.hid (hb.out.trans (hd.mono hb.out.size))) | (have hA := Lib.hid ((arr_fresh w _).below hd); have hb := Lib.hid ((B0 _).trans (hd.mono (B0 _).size)))); obtain ⟨k0, k1, k2, k3, k4, kf⟩ := arr5 hA.out; have rx := (R'.out.below hb.out).head; have ry := (R'.out.below hb.out).tail.head; clear hd))
      exact bodyPost_ret (fin_ar rfl rfl rfl (arr5_set hA.out _ _ _ _ _)) rfl ⟨rfl, below5 (Nat.le_refl _) hb.out _ _ _ _ _⟩
    · by_cases hm : q < 0
      · have E : Hid (Args.pex [x, y] = (Args.none, 2)) := Lib.hid (by simp only [Args.pex]; rw [hP.out, hQ.out, if_pos (Or.inr hm)])
        rw [E.out]
        go_enter Tryd.func16, Tryd.ntmps16
        go_wp2_with (first
                  | (go_at_call 23; refine (number_calls _ (by first | exact hx9 | exact hy9) _ (by first | exact G'.out.below hb.out | exact G'.out.below (B0 _))).mono ?_; (first | rw [hP.out] | rw [hQ.out]); rintro e w1 ⟨rfl, hd⟩; (first | (have hA := Lib.hid (hA.out.below hd); have hb := Lib.hid (hb.out.trans (hd.mono hb.out.size))) | (have hA := Lib.hid ((arr_fresh w _).below hd); have hb := Lib.hid ((B0 _).trans (hd.mono (B0 _).size)))); obtain ⟨k0, k1, k2, k3, k4, kf⟩ := arr5 hA.out; have rx := (R'.out.below hb.out).head; have ry := (R'.out.below hb.out).tail.head; clear hd))
        exact bodyPost_ret (fin_ar rfl rfl rfl (arr5_set hA.out _ _ _ _ _)) rfl ⟨rfl, below5 (Nat.le_refl _) hb.out _ _ _ _ _⟩
      · by_cases hw : 1 ≤ q ∧ q ≤ 64
        · have HW : Hid ((decide (1 ≤ q) && decide (q ≤ 64)) = true) := Lib.hid (by rw [decide_eq_true hw.1, decide_eq_true hw.2]; rfl)
          have E : Hid (Args.pex [x, y] = (⟨Args.exB, 0, q, p, []⟩, 0)) := Lib.hid (by simp only [Args.pex]; rw [hP.out, hQ.out, if_neg (by omega), if_neg (fun h => h hw)])
          rw [E.out]
          go_enter Tryd.func16, Tryd.ntmps16
          go_wp2_with (go_at_call 23; refine (number_calls _ (by first | exact hx9 | exact hy9) _ (by first | exact G'.out.below hb.out | exact G'.out.below (B0 _))).mono ?_; (first | rw [hP.out] | rw [hQ.out]); rintro e w1 ⟨rfl, hd⟩; (first | (have hA := Lib.hid (hA.out.below hd); have hb := Lib.hid (hb.out.trans (hd.mono hb.out.size))) | (have hA := Lib.hid ((arr_fresh w _).below hd); have hb := Lib.hid ((B0 _).trans (hd.mono (B0 _).size)))); obtain ⟨k0, k1, k2, k3, k4, kf⟩ := arr5 hA.out; have rx := (R'.out.below hb.out).head; have ry := (R'.out.below hb.out).tail.head; clear hd)
          have hA := Lib.hid hA.out.drew
          have hb := Lib.hid (below_drew hb.out)
          have rx := (R'.out.below hb.out).head
          have ry := (R'.out.below hb.out).tail.head
          go_region_with (go_at_call 23; refine (number_calls _ (by first | exact hx9 | exact hy9) _ (by first | exact G'.out.below hb.out | exact G'.out.below (B0 _))).mono ?_; (first | rw [hP.out] | rw [hQ.out]); rintro e w1 ⟨rfl, hd⟩; (first | (have hA := Lib.hid (hA.out.below hd); have hb := Lib.hid (hb.out.trans (hd.mono hb.out.size))) | (have hA := Lib.hid ((arr_fresh w _).below hd); have hb := Lib.hid ((B0 _).trans (hd.mono (B0 _).size)))); obtain ⟨k0, k1, k2, k3, k4, kf⟩ := arr5 hA.out; have rx := (R'.out.below hb.out).head; have ry := (R'.out.below hb.out).tail.head; clear hd)
          all_goals go_wp2_with (go_at_call 24; refine (within_calls q 1 64 _).mono ?_; rw [HW.out]; rintro e w5 ⟨rfl, rfl⟩)
          all_goals exact bodyPost_ret (fin_ar rfl rfl rfl (arr5_set hA.out _ _ _ _ _)) rfl ⟨rfl, below5 (Nat.le_refl _) hb.out _ _ _ _ _⟩
        · have HW : Hid ((decide (1 ≤ q) && decide (q ≤ 64)) = false) := Lib.hid (by
            rw [Bool.and_eq_false_iff]
            rcases Decidable.not_and_iff_or_not.1 hw with h | h
            · exact .inl (decide_eq_false h)
            · exact .inr (decide_eq_false h))
          have E : Hid (Args.pex [x, y] = (Args.none, 1)) := Lib.hid (by simp only [Args.pex]; rw [hP.out, hQ.out, if_neg (by omega), if_pos hw])
          rw [E.out]
          go_enter Tryd.func16, Tryd.ntmps16
          go_wp2_with (go_at_call 23; refine (number_calls _ (by first | exact hx9 | exact hy9) _ (by first | exact G'.out.below hb.out | exact G'.out.below (B0 _))).mono ?_; (first | rw [hP.out] | rw [hQ.out]); rintro e w1 ⟨rfl, hd⟩; (first | (have hA := Lib.hid (hA.out.below hd); have hb := Lib.hid (hb.out.trans (hd.mono hb.out.size))) | (have hA := Lib.hid ((arr_fresh w _).below hd); have hb := Lib.hid ((B0 _).trans (hd.mono (B0 _).size)))); obtain ⟨k0, k1, k2, k3, k4, kf⟩ := arr5 hA.out; have rx := (R'.out.below hb.out).head; have ry := (R'.out.below hb.out).tail.head; clear hd)
          have hA := Lib.hid hA.out.drew
          have hb := Lib.hid (below_drew hb.out)
          have rx := (R'.out.below hb.out).head
          have ry := (R'.out.below hb.out).tail.head
          go_region_with (go_at_call 23; refine (number_calls _ (by first | exact hx9 | exact hy9) _ (by first | exact G'.out.below hb.out | exact G'.out.below (B0 _))).mono ?_; (first | rw [hP.out] | rw [hQ.out]); rintro e w1 ⟨rfl, hd⟩; (first | (have hA := Lib.hid (hA.out.below hd); have hb := Lib.hid (hb.out.trans (hd.mono hb.out.size))) | (have hA := Lib.hid ((arr_fresh w _).below hd); have hb := Lib.hid ((B0 _).trans (hd.mono (B0 _).size)))); obtain ⟨k0, k1, k2, k3, k4, kf⟩ := arr5 hA.out; have rx := (R'.out.below hb.out).head; have ry := (R'.out.below hb.out).tail.head; clear hd)
          all_goals go_wp2_with (go_at_call 24; refine (within_calls q 1 64 _).mono ?_; rw [HW.out]; rintro e w5 ⟨rfl, rfl⟩)
          all_goals exact bodyPost_ret (fin_ar rfl rfl rfl (arr5_set hA.out _ _ _ _ _)) rfl ⟨rfl, below5 (Nat.le_refl _) hb.out _ _ _ _ _⟩
  · have E : Hid (Args.pex l = (Args.none, 2)) := Lib.hid (by
      match l, h2 with
      | [], _ => rfl
      | [_], _ => rfl
      | [_, _], h => simp at h
      | _ :: _ :: _ :: _, _ => rfl)
    have g : ¬ ((l.length : Int) = 2) := by omega
    have g2 : ((l.length : Int) != 2) = true := bne_iff_ne.2 g
    generalize l.length = n at *
    rw [E.out]
    go_enter Tryd.func16, Tryd.ntmps16
    go_wp2
    exact bodyPost_ret (fin_ar rfl rfl rfl (arr_fresh w _)) rfl ⟨rfl, B0 _⟩
end Go.Proofs.YtfdfijohcapgaaaDoor.Path
