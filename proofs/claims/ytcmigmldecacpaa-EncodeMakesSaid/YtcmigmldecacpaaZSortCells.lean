/- slices.SortFunc over a row's cells, by its contract: the row is sorted in place; nothing else turns. -/
import Derived.Test.YtcmigmldecacpaaZDraws
import Derived.Test.YtcmigmldecacpaaZSortLay
import Derived.Tactics
import Derived.WalkKit
namespace Go.Proofs.Ytcmigmldecacpaa.SortCells
open Go Go.RowKit Go.Sort Go.Proofs.YtcmigmldecacpaaW.PrintWords Go.Proofs.YtcmigmldecacpaaW.PrintMore Go.Proofs.Ytcmigmldecacpaa.Giv Go.Proofs.Ytcmigmldecacpaa.Draws
set_option linter.unusedVariables false

instance : Inhabited Cl := ⟨⟨0, 0⟩⟩
def encC (x : Cl) : List Value := [.int .i64 x.f0, .int .u8 x.f1]
def flatL (xs : List Cl) : List Value := xs.flatMap encC
theorem flatL_length (xs : List Cl) : (flatL xs).length = xs.length * 2 := by
  induction xs with
  | nil => rfl
  | cons x t ih =>
    show (encC x ++ flatL t).length = _
    rw [List.length_append, ih]
    simp [encC]
    omega
theorem flatL_at : ∀ (xs : List Cl) (j : Nat) (h : j < xs.length), ((flatL xs).drop (j * 2)).take 2 = encC xs[j]
  | x :: t, 0, _ => rfl
  | x :: t, j + 1, h => by
    have e : (flatL (x :: t)).drop ((j + 1) * 2) = (flatL t).drop (j * 2) := by
      show (encC x ++ flatL t).drop ((j + 1) * 2) = _
      rw [show (j + 1) * 2 = (encC x).length + j * 2 by show _ = 2 + j * 2; omega, List.drop_append]
      simp
    rw [e]
    exact flatL_at t j (by simpa using h)
theorem inner_flat : ∀ (xs : List Cl) (inner : List Value), inner.length = xs.length * 2 → (∀ j (h : j < xs.length), (inner.drop (j * 2)).take 2 = encC xs[j]) → inner = flatL xs
  | [], inner, h, _ => List.eq_nil_of_length_eq_zero (by simpa using h)
  | x :: t, inner, h, hh => by
    have h0 := hh 0 (by simp)
    have ht := inner_flat t (inner.drop 2) (by rw [List.length_drop, h, List.length_cons]; omega) (fun j hj => by
      have := hh (j + 1) (by simp; omega)
      rw [List.drop_drop, show 2 + j * 2 = (j + 1) * 2 by omega]
      exact this)
    have e : inner = inner.take 2 ++ inner.drop 2 := (List.take_append_drop 2 inner).symm
    rw [e, ht]
    show _ = encC x ++ flatL t
    rw [show inner.take 2 = encC x from h0]
theorem flatK_flatL (xs : List Cl) : (Sort.flatK encC 2 xs.toArray).toList = flatL xs := by
  refine inner_flat xs _ (by rw [Array.length_toList, Sort.size_flatK]; simp) fun j hj => ?_
  have hs : (Sort.flatK encC 2 xs.toArray).size = xs.length * 2 := by rw [Sort.size_flatK]; simp
  have g : ∀ t (ht : t < xs.length * 2), (Sort.flatK encC 2 xs.toArray).toList[t]'(by rw [Array.length_toList, hs]; exact ht) = (encC xs.toArray[t / 2]!)[t % 2]! := fun t ht => by
    rw [Array.getElem_toList, ← getElem!_pos _ t (by rw [hs]; exact ht)]
    exact Sort.get_flatK encC 2 xs.toArray t (by simpa using ht)
  have hx : xs.toArray[j]! = xs[j] := by simp [hj]
  have g0 := g (j * 2) (by omega)
  have g1 := g (j * 2 + 1) (by omega)
  rw [show j * 2 / 2 = j by omega, show j * 2 % 2 = 0 by omega, hx] at g0
  rw [show (j * 2 + 1) / 2 = j by omega, show (j * 2 + 1) % 2 = 1 by omega, hx] at g1
  rw [List.drop_eq_getElem_cons (by rw [Array.length_toList, hs]; omega), List.take_succ_cons, List.drop_eq_getElem_cons (by rw [Array.length_toList, hs]; omega), List.take_succ_cons, List.take_zero, g0, g1]
  rfl
/-! ### rows of cells -/
section
variable {w : World} {base : Nat} {ok : Nat → Prop} {v : Value} {xs : List Cl}
theorem R_flat (h : Kd.R k70 70 w base ok v xs) : w.ownsRow base 70 2 v xs.length (flatL xs) ∧ ∀ k, v.ownBlock = some k → ok k := by
  obtain ⟨h0, inner, ho, hr⟩ := h
  have e : inner = flatL xs := inner_flat xs inner hr.1 fun j hj => k70_openM (hr.2 j xs[j] (List.getElem?_eq_getElem hj))
  subst e
  exact ⟨ho, h0⟩
theorem flat_R (ho : w.ownsRow base 70 2 v xs.length (flatL xs)) (h0 : ∀ k, v.ownBlock = some k → ok k) : Kd.R k70 70 w base ok v xs := by
  refine ⟨h0, flatL xs, ho, flatL_length xs, fun j x hx => ?_⟩
  obtain ⟨hj, rfl⟩ := List.getElem?_eq_some_iff.1 hx
  have e : ((flatL xs).drop (j * k70.sz)).take k70.sz = encC xs[j] := flatL_at xs j hj
  rw [e]
  exact k70_mkM _ _ _ _
end
theorem own_holds {w : World} {base g n cap : Nat} {xs : List Cl} (h : w.ownsRow base 70 2 (.slice (some ⟨g, 0, none⟩) n cap) n (flatL xs)) : Sort.HoldsK encC 2 w g 0 xs.toArray := by
  intro j hj
  have hj' : j < (flatL xs).length := by
    have : (Sort.flatK encC 2 xs.toArray).toList.length = (flatL xs).length := by rw [flatK_flatL]
    rw [← this, Array.length_toList]; exact hj
  have e : (Sort.flatK encC 2 xs.toArray)[j]! = (flatL xs)[j] := by
    have h1 : (Sort.flatK encC 2 xs.toArray).toList[j]'(by rw [Array.length_toList]; exact hj) = (flatL xs)[j] := by
      have : ∀ (l : List Value) (e : l = flatL xs) (h : j < l.length), l[j] = (flatL xs)[j] := by intro l e h; subst e; rfl
      exact this _ (flatK_flatL xs) _
    rw [Array.getElem_toList] at h1
    rw [getElem!_pos _ j hj, h1]
  have hl : j < n * 2 := by rw [← h.1]; exact hj'
  have hc := h.cellAt j hl
  rw [Nat.zero_add, e]
  exact ⟨by rw [hc, List.getElem?_eq_getElem hj']; rfl, h.frozenAt j⟩
theorem own_sorted {w : World} {base g n cap m : Nat} {os : Array Obj} {xs ys : List Cl} (h : w.ownsRow base 70 2 (.slice (some ⟨g, 0, none⟩) n cap) n (flatL xs)) (hl : ys.length = xs.length) :
    (sortWorldK encC 2 w g 0 m ys.toArray os).ownsRow base 70 2 (.slice (some ⟨g, 0, none⟩) n cap) n (flatL ys) := by
  rcases h with ⟨h1, ⟨h2, _⟩ | ⟨g', cap', cur, he, hb, hh, hn, hcm, hcs, ht⟩⟩
  · cases h2
  · injection he with he1 he2 he3
    injection he1 with he1
    injection he1 with he1
    subst he1 he3
    have hln : n = xs.length := by rw [flatL_length] at h1; omega
    have hF : (Sort.flatK encC 2 ys.toArray).size = n * 2 := by rw [Sort.size_flatK]; simp; omega
    have hheap : (sortWorldK encC 2 w g 0 m ys.toArray os).heap[g]? = some (.cells (Sort.putCells id 0 (Sort.flatK encC 2 ys.toArray) cur) 70 (0, 0)) := by
      have hg : g < w.heap.size := (Array.getElem?_eq_some_iff.1 hh).1
      unfold sortWorldK Sort.putRowK
      rw [heap_grow_old _ _ (by simpa using hg)]
      simp [Sort.putRow, mapBlock, Sort.ahead, Array.getElem?_modify, hh, onCells]
    refine ⟨by rw [flatL_length]; omega, .inr ⟨g, cap, _, rfl, hb, hheap, hn, hcm, by simp [Sort.putCells, hcs], ?_⟩⟩
    rw [← flatK_flatL]
    apply List.ext_getElem?
    intro j
    by_cases hj : j < n * 2
    · have hjc : j < cur.size := by rw [hcs]; exact Nat.lt_of_lt_of_le hj (Nat.mul_le_mul_right 2 hn)
      rw [List.getElem?_take_of_lt hj, Array.getElem?_toList, Array.getElem?_toList]
      simp [Sort.putCells, hjc, hF, hj]
    · rw [List.getElem?_take_eq_none (by omega), List.getElem?_eq_none (by rw [Array.length_toList, hF]; omega)]
theorem grown_sorted {w : World} {g m : Nat} {os : Array Obj} (d : Array Cl) : w.grownBy (sortWorldK encC 2 w g 0 m d os) (some g) := by
  refine ⟨rfl, rfl, rfl, by unfold sortWorldK Sort.putRowK; simp, fun k hk hne => ?_⟩
  unfold sortWorldK Sort.putRowK
  rw [heap_grow_old _ _ (by simpa using hk)]
  have : g ≠ k := fun e => hne (by rw [e])
  simp [Sort.putRow, mapBlock, Sort.ahead, Array.getElem?_modify, this]
/-! ### the order -/
def cmpC (x y : Cl) : Int := Lib.compareInt x.f0 y.f0
theorem lt_cmp (x y : Cl) : ltOf cmpC x y = decide (x.f0 < y.f0) := by
  unfold ltOf cmpC Lib.compareInt
  by_cases h1 : x.f0 < y.f0
  · simp [h1]
  · by_cases h2 : y.f0 < x.f0 <;> simp [h1, h2]
theorem swo : Sort.SWO (ltOf cmpC) where
  irrefl x := by rw [lt_cmp]; simp
  trans x y z h1 h2 := by rw [lt_cmp] at *; simp at *; omega
  ntrans x y z h1 h2 := by rw [lt_cmp] at *; simp at *; omega
def sortC (xs : List Cl) : List Cl := (Sort.pdq (ltOf cmpC) xs.toArray 0 xs.toArray.size (Lib.bitLen xs.toArray.size) true true).toList
theorem sortC_perm (xs : List Cl) : (sortC xs).Perm xs ∧ (sortC xs).length = xs.length := by
  have h := (Sort.pdq_sorts (ltOf cmpC) swo xs.toArray 0 xs.toArray.size (Lib.bitLen xs.toArray.size) true true (Nat.zero_le _) (Nat.le_refl _) (Or.inl rfl)).1
  obtain ⟨h1, _, h3⟩ := h
  have hs : (Sort.pdq (ltOf cmpC) xs.toArray 0 xs.toArray.size (Lib.bitLen xs.toArray.size) true true).size = xs.toArray.size := h1
  have hp : (sortC xs).Perm xs := by
    unfold sortC
    generalize Sort.pdq (ltOf cmpC) xs.toArray 0 xs.toArray.size (Lib.bitLen xs.toArray.size) true true = d at h3 hs
    rw [← hs, Array.extract_size, hs, Array.extract_size] at h3
    simpa using h3
  exact ⟨hp, hp.length_eq⟩
set_option maxHeartbeats 1000000 in
/-- the comparing of two cells -/
theorem cmp_calls (x y : Cl) (W : World) : Calls Try.prog 104 #[.agg #[.int .i64 x.f0, .int .u8 x.f1], .agg #[.int .i64 y.f0, .int .u8 y.f1]] W fun e w' => e = .returned (.int .i64 (cmpC x y)) ∧ ∃ q os', w' = Sort.grow (W.drewN q) os' := by
  have hcon := fun W' => AnyG.cmp_Compare_int Try.cmpCell x.f0 y.f0 W'
  change ∀ W', Calls Try.prog 105 _ _ _ at hcon
  unfold cmpC
  generalize Lib.compareInt x.f0 y.f0 = r at hcon ⊢
  go_enter Try.func104, Try.ntmps104
  go_wp2_with (go_at_call 105; refine (hcon _).mono ?_; rintro e w' ⟨rfl, rfl⟩)
  go_ret
  exact ⟨rfl, 0, _, by rw [Sort.alloc_eq_grow, Sort.alloc_eq_grow, Sort.grow_grow]; rfl⟩
theorem isAggC : ∀ w, (isAgg 70).run Try.prog w = .ok true w := fun w => by kernel_rfl
theorem sizeC : ∀ w, (Go.sizeOf 70).run Try.prog w = .ok 2 w := fun w => by kernel_rfl
/-- the sort of a row of one's own -/
theorem sort_calls {w : World} {base cap n : Nat} {A : Option Addr} {ok : Nat → Prop} {xs : List Cl} (h : Kd.R k70 70 w base ok (.slice A n cap) xs) (hpos : 0 < xs.length) (hl : xs.length ≤ 1000) :
    Calls Try.prog 103 #[.slice A n cap, .func (.func 104) #[] #[]] w fun e w' => e = .returned (.tuple #[]) ∧ Kd.R k70 70 w' base ok (.slice A n cap) (sortC xs) ∧ Below base w w' := by
  obtain ⟨ho, h0⟩ := R_flat h
  have hn : n = xs.length := (Kd.R_reads' h).1
  subst hn
  obtain ⟨g, cap', e, hb, hg⟩ := ho.form hpos
  injection e with e1 e2 e3
  subst e1 e3
  have eg : ∀ args w, (callFunc 104 args).run Try.prog w = .ok (.enter 104 args) w := enters_of Try.func104 (by kernel_rfl) rfl
  have hcon := AnyQ.slices_SortFunc_eq Try.sortCell 2 isAggC sizeC encC (fun _ => rfl) (fun x v hv => by simp [encC] at hv; rcases hv with rfl | rfl <;> rfl) cmpC swo 104 #[] g 0 cap xs.toArray w eg (fun _ _ _ _ x y => cmp_calls x y _) (own_holds ho) hg (by simp; omega)
  have hcon' : Calls Try.prog 103 #[.slice (some ⟨g, 0, none⟩) xs.toArray.size cap, .func (.func 104) #[] #[]] w _ := hcon
  have hs : xs.toArray.size = xs.length := by simp
  rw [hs] at hcon'
  refine hcon'.mono ?_
  rintro e w' ⟨rfl, m, os, rfl⟩
  have hy : (sortC xs).toArray = Sort.pdq (ltOf cmpC) xs.toArray 0 xs.length (Lib.bitLen xs.length) true true := by unfold sortC; simp
  rw [← hy]
  have hl2 := (sortC_perm xs).2
  have ho2 := own_sorted (m := m) (os := os) (ys := sortC xs) ho hl2
  rw [← hl2] at ho2
  refine ⟨rfl, ?_, ?_⟩
  · have := flat_R (ok := ok) ho2 (fun k hk => h0 k hk)
    rwa [hl2] at this
  · have hgr := grown_sorted (w := w) (g := g) (m := m) (os := os) (sortC xs).toArray
    exact ⟨hgr.os, hgr.tape, hgr.output, hgr.size, fun k hk => hgr.block k (by omega) (fun e => by injection e with e; omega)⟩
end Go.Proofs.Ytcmigmldecacpaa.SortCells
